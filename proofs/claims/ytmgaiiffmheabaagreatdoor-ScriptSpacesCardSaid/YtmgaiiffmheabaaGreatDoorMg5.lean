/- x -/
import Derived.Test.YtmgaiiffmheabaaGreatDoorMg1
import Derived.Maps.RangeRun
import Derived.ChangeMaps5
import Derived.Maps.OwnSet
import Derived.WalkMore
import Derived.ScopeJumps
import Derived.Deep.AppendLies
namespace Go.Proofs.YtmgaiiffmheabaaGreatDoor
open Option renaming some->ϊ,none->ϋ
open Bool renaming true->ό,false->ύ
open Go.Value renaming bool->μ,slice->δ,pointer->π,agg->θ
open Go.IntKind renaming i64->ι,u8->υ,u16->φ,u32->ω,i32->χ,u64->ψ
set_option linter.all false
set_option maxHeartbeats 8000000
open _root_.Go.Proofs.Tryz
open Go.RowKit
set_option maxRecDepth 100000
open Go.RowKit Go.ChangeMaps
variable {w w':World} {C S:Nat->Prop} {s s' s0:RdS} {v vb v':Value} {R T c B i a r n base size:Nat} {b l L:List Int} {xs:List Value} {is:List Nat} {cs z:Array Value} {e:Int} {d:TypeId} {P:Program} {q:IntKind} {o:Obj} {p:Int×Int} {α:Type}
section
variable {K V:Type} [DecidableEq K] {P:Program}
def yx (k:K):List (K×V)->Nat->Option (Nat×V)
 | [],_=>ϋ
 | (a,v)::l,i=>if k=a then ϊ (i,v) else yx k l (i+1)
def qh:List (K×V)->K->Option V
 | [],_=>ϋ
 | (a,v)::l,k=>if k=a then ϊ v else qh l k
def qx:List (K×V)->K->V->List (K×V)
 | [],k,v=>[(k,v)]
 | (a,b)::l,k,v=>if k=a then (k,v)::l else (a,b)::qx l k v
def yK:List (K×V)->K->List (K×V)
 | [],_=>[]
 | (a,b)::l,k=>if k=a then l else (a,b)::yK l k
def kQ {k:K} {v:V}: ∀{L:List (K×V)} {i j:Nat},yx k L j=ϊ (i,v)->j<=i/\L[i-j]? =ϊ (k,v)/\qh L k=ϊ v/\yK L k=L.eraseIdx (i-j)/\ ∀u,qx L k u=L.set (i-j) (k,u)
 | [],_,_,h=>by simp[yx] at h
 | (a,b)::l,i,j,h=>by
  unfold yx at h;by_cases e:k=a
  ·rw[ϓ e] at h;cases h;subst e;simp[qh,yK,qx]
  ·rw[Ϗ e] at h;obtain⟨N,G,H,I,J⟩:=kQ h;have d:i-j=(i-(j+1))+1:=by omega
   refine⟨τ,by rw[d];simpa using G,by simp[qh,e,H],by rw[d];simp[yK,e,I],λu=>by rw[d];simp[qx,e,J]⟩
def kR {k:K}: ∀{L:List (K×V)} {j:Nat},yx k L j=ϋ->qh L k=ϋ/\yK L k=L/\k∉L.map Prod.fst/\ ∀u,qx L k u=L++[(k,u)]
 | [],_,_=>by simp[qh,yK,qx]
 | (a,b)::l,j,h=>by
  unfold yx at h;by_cases e:k=a
  ·rw[ϓ e] at h;cases h
  ·rw[Ϗ e] at h;obtain⟨G,H,d,I⟩:=kR h;refine⟨by simp[qh,e,G],by simp[yK,e,H],by simp[e] at d ⊢;exact d,λu=>by simp[qx,e,I]⟩
def Pu (k:K) (L:List (K×V)) (j:Nat):(yx k L j).map (·.2)=qh L k:=by
 cases h:yx k L j with
 | none=>simp[(kR h).1]
 | some x=>obtain⟨i,v⟩:=x;simp[(kQ h).2.2.1]
structure yz (P:Program) (kt:TypeId) (ke:K->Value):Prop where
 look: ∀(V:Type) (ve:V->Value) (k:K) (L:List (K×V)) (es:List MapEntry) (w:World),es.map (λe=>(e.key,e.val))=L.map (λp=>(ke p.1,ve p.2))->(Instr.findKey kt (ke k) es).run P w= .ok ((yx k L 0).map λx=>(x.1,ve x.2)) w
 check: ∀b k w,(Instr.checkKey b 10000 kt (ke k)).run P w= .ok () w
 same: ∀k,Instr.sameBits 10000 (ke k) (ke k)=ό
def Ja {ke:K->Value} {G:V->Value} {d:TypeDesc} (h: ∀a b,Instr.sameNow d (ke a) (ke b)=ϊ (decide (a=b))) (k:K): ∀(L:List (K×V)) (es:List MapEntry) (i:Nat),
  es.map (λe=>(e.key,e.val))=L.map (λp=>(ke p.1,G p.2))->Instr.findNow d (ke k) es i=ϊ ((yx k L i).map λx=>(x.1,G x.2))
 | [],[],_,_=>rfl
 | [],_::_,_,e=>by simp at e
 | _::_,[],_,e=>by simp at e
 | (a,v)::l,x::es,i,e=>by
  simp only[Ϛ,O6,C8] at e;unfold Instr.findNow yx;rw[e.1.1,h];by_cases hk:k=a
  ·simp[hk,e.1.2]
  ·simp[hk,Ja h k l es (i+1) e.2]
omit [DecidableEq K] in
def UT {ke:K->Value} {G:V->Value} {d:TypeDesc} (h: ∀a b,Instr.sameNow d (ke a) (ke b)=ϋ) (k:K): ∀(L:List (K×V)) (es:List MapEntry) (i:Nat),
  es.map (λe=>(e.key,e.val))=L.map (λp=>(ke p.1,G p.2))->Instr.findNow d (ke k) es i=if L=[] then ϊ ϋ else ϋ
 | [],[],_,_=>rfl
 | [],_::_,_,e=>by simp at e
 | _::_,[],_,e=>by simp at e
 | (a,v)::l,x::es,i,e=>by
  simp only[Ϛ,O6,C8] at e;unfold Instr.findNow;rw[e.1.1,h];simp
def uL {ke:K->Value} {G:V->Value} (h: ∀a b,(Op.equal d (ke a) (ke b)).run P w= .ok (decide (a=b)) w) (k:K): ∀(L:List (K×V)) (es:List MapEntry) (i:Nat),
  es.map (λe=>(e.key,e.val))=L.map (λp=>(ke p.1,G p.2))->(Instr.findAsking d (ke k) es i).run P w= .ok ((yx k L i).map λx=>(x.1,G x.2)) w
 | [],[],_,_=>rfl
 | [],_::_,_,e=>by simp at e
 | _::_,[],_,e=>by simp at e
 | (a,v)::l,x::es,i,e=>by
  simp only[Ϛ,O6,C8] at e;unfold Instr.findAsking yx;rw[Sem.run_bind,e.1.1,h];by_cases hk:k=a
  ·simp[hk,Result.andThen,e.1.2,Sem.run,pure]
  ·simp[hk,Result.andThen,uL h k l es (i+1) e.2]
def yz.of_now {ke:K->Value} {G:TypeDesc} (N:P.underlying d=ϊ G) (h: ∀a b,Instr.sameNow G (ke a) (ke b)=ϊ (decide (a=b)))
  (I: ∀b k w,(Instr.checkKey b 10000 d (ke k)).run P w= .ok () w) (J: ∀k,Instr.sameBits 10000 (ke k) (ke k)=ό):yz P d ke:=
 ⟨λV O k L H w e=>by
  unfold Instr.findKey;rw[Sem.run_bind,run_underlying N]
  simp[Result.andThen,Ja h k L H 0 e,Sem.run,pure],I,J⟩
def yz.of_ask {ke:K->Value} {H:TypeDesc} (O:P.underlying d=ϊ H) (h: ∀a b,Instr.sameNow H (ke a) (ke b)=ϋ) (J: ∀a b w,(Op.equal d (ke a) (ke b)).run P w= .ok (decide (a=b)) w)
  (I: ∀b k w,(Instr.checkKey b 10000 d (ke k)).run P w= .ok () w) (N: ∀k,Instr.sameBits 10000 (ke k) (ke k)=ό):yz P d ke:=
 ⟨λV U k L G w e=>by
  unfold Instr.findKey;rw[Sem.run_bind,run_underlying O];simp only[Result.andThen,UT h k L G 0 e];by_cases hL:L=[]
  ·subst hL;simp[yx,Sem.run,pure]
  ·simp[hL,uL (λa b=>J a b w) k L G 0 e],I,N⟩
structure jk (w:World) (b:Nat) (ke:K->Value) (ve:V->Value) (L:List (K×V)):Prop where
 ex: ∃es clock,w.heap[b]? =ϊ (.map es clock)/\es.toList.map (λe=>(e.key,e.val))=L.map (λp=>(ke p.1,ve p.2))/\(es.toList.map (·.born)).Nodup/\ ∀e∈es.toList,e.born<clock
 keys:(L.map Prod.fst).Nodup
variable {w:World} {b:Nat} {ke:K->Value} {ve:V->Value} {L:List (K×V)}
omit [DecidableEq K] in
def jk.lt (h:jk w b ke ve L):b<w.heap.size:=by obtain⟨⟨_,_,d,_⟩,_⟩:=h;exact lt_of_block d
omit [DecidableEq K] in
def jk.made (w:World) (ke:K->Value) (d:V->Value):jk (w.alloc (.map #[] 0)) w.heap.size ke d []:=
 ⟨⟨#[],0,qj _ _,rfl,η,η⟩,η⟩
omit [DecidableEq K] in
def jk.away (h:jk w b ke ve L) (m:jt S w w') (H: ¬S b):jk w' b ke ve L:=by
 obtain⟨⟨d,c,G,r⟩,k⟩:=h;exact⟨⟨d,c,m.blk G H,r⟩,k⟩
omit [DecidableEq K] in
def jk.more (h:jk w b ke ve L) (m:ql w w'):jk w' b ke ve L:=h.away (jt.of_more (S:=λ_=>False) m) (λx=>x)
def yf {b:Nat} {G:Array MapEntry} (H:w.heap[b]? =ϊ (.map G c)) (d:Obj):(setObj b d).run P w= .ok () (setBlock w b d):=by
 simp[setObj,Sem.run,H,setBlock]
def j7 {b:Nat} {d:Array MapEntry} (G:w.heap[b]? =ϊ (.map d c)):(getObj b).run P w= .ok (.map d c) w:=by
 simp[getObj,Sem.run,G]
def zG (w:World) (b:Nat) (o:Obj):jt (λx=>x=b) w (setBlock w b o):=
 ⟨rfl,rfl,rfl,by simp[setBlock],λk _ d=>by
  simp only[setBlock]
  rw[O1 (λe=>d e.symm)]⟩
def zD (w:World) (b:Nat) (o:Obj):(setBlock w b o).heap.size=w.heap.size:=by simp[setBlock]
def jk.look {O I t:TypeId} {z:Value} (h:jk w b ke ve L) (H:yz P O ke) (N:P.underlying t=ϊ (.map O I)) (aa:(zeroValue I).run P w= .ok z w) (k:K) (c:Bool):
  (Instr.lookup t (.map (ϊ b)) (ke k) c).run P w= .ok (if c then .tuple #[((qh L k).map ve).getD z,μ (qh L k).isSome] else ((qh L k).map ve).getD z) w:=by
 obtain⟨⟨U,ab,J,Y,_⟩,_⟩:=h;have G:=H.look V ve k L U.toList w Y;have d:=Pu k L 0;unfold Instr.lookup;cases hq:yx k L 0 with
 | none=>
  rw[hq] at G d;simp only[O7] at G d;simp[run_underlying N,j7 J,H.check,G,aa,<-d,go_sem]
 | some x=>
  rw[hq] at G d;simp only[D9] at G d;simp[run_underlying N,j7 J,H.check,G,<-d,go_sem]
def Jq {d:List MapEntry} {k:Value}:(d.modify i λe=>{e with key:=k,val:=v}).map (λe=>(e.key,e.val))=(d.map λe=>(e.key,e.val)).set i (k,v):=by
 induction d generalizing i with
 | nil=>simp
 | cons x l ih=>
  cases i with
  | zero=>simp[List.modify_cons]
  | succ i=>simp[ih]
def kA {d:List MapEntry} {k:Value}:(d.modify i λe=>{e with key:=k,val:=v}).map (·.born)=d.map (·.born):=by
 induction d generalizing i with
 | nil=>simp
 | cons x l ih=>
  cases i with
  | zero=>simp[List.modify_cons]
  | succ i=>simp[ih]
omit [DecidableEq K] in
def XT {k:K} {u:V} {v:V} (h:L[i]? =ϊ (k,v)):((L.set i (k,u)).map Prod.fst)=L.map Prod.fst:=by
 rw[X3];refine M3 λj=> ?_
 rw[List.getElem?_set];by_cases hj:i=j
 ·subst hj;have hi:i<L.length:=(ϣ.1 h).1;have e:=(ϣ.1 h).2;simp[hi,e]
 ·simp[hj]
def jk.update {aj al t:TypeId} (h:jk w b ke ve L) (J:yz P aj ke) (ai:P.underlying t=ϊ (.map aj al)) (k:K) (u:V):
  ∃w',(Instr.mapUpdate t (.map (ϊ b)) (ke k) (ve u)).run P w= .ok () w'/\jk w' b ke ve (qx L k u)/\jt (λx=>x=b) w w'/\w'.heap.size=w.heap.size:=by
 obtain⟨⟨G,aa,H,Y,ah,ad⟩,af⟩:=h;have I:=J.look V ve k L G.toList w Y;unfold Instr.mapUpdate;cases hq:yx k L 0 with
 | none=>
  rw[hq] at I;simp only[O7] at I;obtain⟨aq,N,ae,O⟩:=kR hq;refine⟨setBlock w b (.map (G.push {key:=ke k,val:=ve u,born:=aa}) (aa+1)), ?_,⟨⟨_,_,heap_setBlock_same H _, ?_, ?_, ?_⟩, ?_⟩,zG _ _ _,zD _ _ _⟩
  ·simp[run_underlying ai,j7 H,J.check,I,yf H,go_sem]
  ·rw[O];simp[Y]
  ·simp only[Array.toList_push,ϩ,Ϛ,C6];rw[G8];refine⟨ah,η,λa ac c U=> ?_⟩;obtain⟨e,d,rfl⟩:=ο.1 ac;have:=ad e d;simp at U;omega
  ·intro e d;simp at d;rcases d with d | rfl
   ·have:=ad e (by simpa using d);omega
   ·exact K5 _
  ·rw[O];rw[ϩ,G8];refine⟨af,η,λa ac c U=> ?_⟩;simp at U;subst U;intro e;subst e;exact ae ac
 | some x=>
  obtain⟨i,v⟩:=x;rw[hq] at I;simp only[D9] at I;obtain⟨aq,N,ae,O,ab⟩:=kQ hq;simp only[Nat.sub_zero] at N O ab;have hi:(G.toList.map (λe=>(e.key,e.val)))[i]? =ϊ (ke k,ve v):=by rw[Y,B6,N];rfl
  rw[B6] at hi;obtain⟨e0,am,an⟩:=K6.1 hi;have ao:G[i]? =ϊ e0:=by simpa using am
  have ap:e0.key=ke k:=Γ Prod.fst an;have ar:(Instr.keyThatStays (((G[i]?).map (·.key)).getD (ke k)) (ke k)).run P w= .ok (ke k) w:=by
   rw[ao];simp only[D9,ϰ,ap];unfold Instr.keyThatStays;rw[J.same];rfl
  refine⟨setBlock w b (.map (G.modify i λe=>{e with key:=ke k,val:=ve u}) aa), ?_,⟨⟨_,_,heap_setBlock_same H _, ?_, ?_, ?_⟩, ?_⟩,zG _ _ _,zD _ _ _⟩
  ·simp only[run_underlying ai,j7 H,J.check,I,Sem.run_bind,Result.andThen,ar,yf H]
  ·rw[ab,P1,Jq,Y,X3]
  ·rw[P1,kA];exact ah
  ·intro e d;have ag:e.born∈((G.modify i λe=>{e with key:=ke k,val:=ve u}).toList.map (·.born)):=N1 d;rw[P1,kA] at ag;obtain⟨ak,au,av⟩:=ο.1 ag;rw[<-av];exact ad ak au
  ·rw[ab,XT N];exact af
end
def uZ: ∀{l m:List Nat},l.Nodup->l ⊆ m->l.length<=m.length
 | [],_,_,_=>ϫ _
 | a::t,m,h,hs=>by
  simp only[E0] at h;have d:a∈m:=hs ϟ;have I:t ⊆ m.erase a:=λx G=>(W5 (λe=>h.1 (by rw[<-e];exact G))).2 (hs (ϛ _ G))
  have H:=uZ h.2 I;rw[S0 d] at H;have:=List.length_pos_of_mem d;simp only[Ϙ];omega
def XE: ∀{l m:List Nat},l.Nodup->l ⊆ m->m.length<=l.length->l.Perm m
 | [],m,_,_,hl=>by
  have:m=[]:=Ϡ (by simpa using hl);rw[this]
 | a::t,m,h,hs,hl=>by
  simp only[E0] at h;have d:a∈m:=hs ϟ;have I:t ⊆ m.erase a:=λx G=>(W5 (λe=>h.1 (by rw[<-e];exact G))).2 (hs (ϛ _ G))
  have H:=XE h.2 I (by rw[S0 d];simp at hl;omega);exact(H.cons a).trans (List.perm_cons_erase d).symm
section
variable {K V:Type} [DecidableEq K] {P:Program} {w:World} {b:Nat} {ke:K->Value} {ve:V->Value} {L:List (K×V)}
def jk.len {O G t:TypeId} (h:jk w b ke ve L) (N:P.underlying t=ϊ (.map O G)) (U:TypeId):(Builtin.len_ #[t] U #[.map (ϊ b)]).run P w= .ok (ι L.length) w:=by
 obtain⟨⟨d,Y,H,I,_⟩,_⟩:=h;have J:d.size=L.length:=by
  have:=Γ List.length I
  simpa using this
 unfold Builtin.len_;simp[run_underlying N,j7 H,J,goInt,go_sem]
def ZO (k:K): ∀(L:List (K×V)),(L.map Prod.fst).Nodup->((yK L k).map Prod.fst).Nodup
 | [],h=>h
 | (a,b)::l,h=>by
  simp only[Ϛ,E0] at h;unfold yK;split
  ·exact h.2
  ·simp only[Ϛ,E0];refine⟨λG=>h.1 ?_,ZO k l h.2⟩;obtain⟨x,d,e⟩:=ο.1 G;rw[<-e];refine N1 ?_;clear h G e
   induction l with
   | nil=>exact d
   | cons y l ih=>
    obtain⟨c,H⟩:=y;unfold yK at d;split at d
    ·exact ϛ _ d
    ·rcases Ϟ.1 d with rfl | d
     ·exact ϟ
     ·exact ϛ _ (ih d)
def jk.drop {aa ag t:TypeId} (h:jk w b ke ve L) (N:yz P aa ke) (af:P.underlying t=ϊ (.map aa ag)) (k:K) (al:TypeId):
  ∃w',(Builtin.delete_ #[t,aa] al #[.map (ϊ b),ke k]).run P w= .ok (.tuple #[]) w'/\jk w' b ke ve (yK L k)/\jt (λx=>x=b) w w'/\w'.heap.size=w.heap.size:=by
 have ac:=ZO k L h.keys;obtain⟨⟨d,O,G,J,ae,ab⟩,am⟩:=h;have H:=N.look V ve k L d.toList w J;unfold Builtin.delete_;cases hq:yx k L 0 with
 | none=>
  rw[hq] at H;simp only[O7] at H;obtain⟨ah,I,ai,Y⟩:=kR hq;refine⟨setBlock w b (.map d O), ?_,⟨⟨d,O,heap_setBlock_same G _,by rw[I];exact J,ae,ab⟩,ac⟩,zG _ _ _,zD _ _ _⟩;simp[run_underlying af,j7 G,N.check,H,yf G,go_sem]
 | some x=>
  obtain⟨i,v⟩:=x;rw[hq] at H;simp only[D9] at H;obtain⟨ah,I,ai,Y,aj⟩:=kQ hq;simp only[Nat.sub_zero] at I Y aj;have hi:i<d.size:=by
   have ak:=Γ List.length J;simp at ak;have:=(ϣ.1 I).1;omega
  have U:(d.eraseIdxIfInBounds i).toList=d.toList.eraseIdx i:=by simp[Array.eraseIdxIfInBounds,hi]
  refine⟨setBlock w b (.map (d.eraseIdxIfInBounds i) O), ?_,⟨⟨_,_,heap_setBlock_same G _, ?_, ?_, ?_⟩,ac⟩,zG _ _ _,zD _ _ _⟩
  ·simp[run_underlying af,j7 G,N.check,H,yf G,go_sem]
  ·rw[Y,U,map_eraseIdx,J,map_eraseIdx]
  ·rw[U,map_eraseIdx];exact List.Nodup.sublist (U1 _ _) ae
  ·intro e ad;rw[U] at ad;exact ab e (List.Sublist.mem ad (U1 _ _))
structure jW (w:World) (r b:Nat) (ke:K->Value) (ve:V->Value) (L:List (K×V)) (is:List Nat):Prop where
 ex: ∃(es:Array MapEntry) (clock since c0:Nat) (seen:Array Nat),w.heap[r]? =ϊ (.mapIter (ϊ b) since seen c0)/\w.heap[b]? =ϊ (.map es clock)/\seen.toList=is.map (λi=>(es[i]?.map (·.born)).getD 0)/\
  es.toList.map (λe=>(e.key,e.val))=L.map (λp=>(ke p.1,ve p.2))/\(es.toList.map (·.born)).Nodup/\(∀e∈es.toList,e.born<since)/\since<=c0/\since<=clock/\(∀e∈es.toList,e.born<clock)
 nd:is.Nodup
 lt: ∀i∈is,i<L.length
 keys:(L.map Prod.fst).Nodup
def jW.away (h:jW w r b ke ve L is) (m:jt S w w') (J: ¬S r) (O: ¬S b):jW w' r b ke ve L is:=by
 obtain⟨⟨H,G,Y,d,U,N,I,rest⟩,n,l,k⟩:=h;exact⟨⟨H,G,Y,d,U,m.blk N J,m.blk I O,rest⟩,n,l,k⟩
def jW.more (h:jW w r b ke ve L is) (m:ql w w'):jW w' r b ke ve L is:=h.away (jt.of_more (S:=λ_=>False) m) (λx=>x) (λx=>x)
def jW.rlt (h:jW w r b ke ve L is):r<w.heap.size:=by
 obtain⟨⟨I,H,N,G,J,d,_⟩,_⟩:=h;exact lt_of_block d
def jk.range {aa J t:TypeId} (h:jk w b ke ve L) (Y:P.underlying t=ϊ (.map aa J)):
  ∃w',(Instr.range t (.map (ϊ b))).run P w= .ok (γ w.heap.size) w'/\jW w' w.heap.size b ke ve L []/\ql w w'/\w'.heap.size=w.heap.size+1:=by
 obtain⟨⟨I,d,G,N,U,H⟩,O⟩:=h;refine⟨w.alloc (.mapIter (ϊ b) d #[] d), ?_,⟨⟨I,d,d,d,#[],qj _ _,qs G _,rfl,N,U,H,ϔ _,ϔ _,H⟩,N5,η,O⟩,ql.alloc _ _,η⟩;unfold Instr.range;simp[run_underlying Y,j7 G,go_sem]
def jW.next (h:jW w r b ke ve L is):
  (is.length=L.length/\ ∀ad,(Instr.next (γ r) ύ ad).run P w= .ok (.tuple #[μ ύ]) w)∨
  ∃(i:Nat) (hi:i<L.length) (w':World),i∉is/\is.length<L.length/\(∀ad,(Instr.next (γ r) ύ ad).run P w= .ok (.tuple #[μ ό,ke L[i].1,ve L[i].2]) w')/\
   jW w' r b ke ve L (is++[i])/\jt (λx=>x=r) w w'/\w'.heap.size=w.heap.size/\(Instr.entry (γ r)).run P w'= .ok (.tuple #[ke L[i].1,ve L[i].2]) w':=by
 obtain⟨⟨d,I,N,ao,H,ak,Y,az,af,ai,ay,aB,ap,aF⟩,an,ac,aH⟩:=h;have aN:d.size=L.length:=by
  have:=Γ List.length af
  simpa using this
 have aE: ∀(i j:Nat) (hi:i<d.size) (G:j<d.size),d[i].born=d[j].born->i=j:=λi j hi G e=>by
  have aw:=List.pairwise_iff_getElem.1 ai;rcases Nat.lt_trichotomy i j with h | h | h
  ·exact ϧ (by rw[M7,M7];exact e) (aw i j (by simpa using hi) (by simpa using G) h)
  ·exact h
  ·exact ϧ (by rw[M7,M7];exact e.symm) (aw j i (by simpa using G) (by simpa using hi) h)
 have au: ∀i (hi:i<d.size),(d[i].born∈H.toList↔i∈is):=λi hi=>by
  rw[az];constructor
  ·intro J;obtain⟨j,G,e⟩:=ο.1 J;have av:j<d.size:=by rw[aN];exact ac j G
   simp[av] at e;rw[aE i j hi av e.symm];exact G
  ·intro J;exact ο.2 ⟨i,J,by simp[hi]⟩
 rcases run_next_at (P:=P) w 0 r b N ao H d I ak Y ay aB with ⟨aM,al⟩ | ⟨e,J,w1,ab,al⟩
 ·left;refine⟨?_,λ_=>al⟩;have aC: ∀i,i<L.length->i∈is:=λi hi=>by
   have aG:i<d.size:=by omega
   by_cases J:i∈is
   ·exact J
   ·exfalso;have:d[i]∈(leftOf d H).toList:=by
     unfold leftOf;simp only[X1,E8];refine⟨η, ?_⟩;have am:=mt (au i aG).1 J
     simpa using am
    have aq:(leftOf d H).toList.length=0:=by simpa using aM
    rw[K4] at aq;rw[aq] at this;cases this
  have aO:is.length<=L.length:=by
   have:is ⊆ List.range L.length:=λi hi=>M5.2 (ac i hi)
   simpa using uZ an this
  have p2:L.length<=is.length:=by
   have:List.range L.length ⊆ is:=λi hi=>aC i (M5.1 hi)
   simpa using uZ List.nodup_range this
  omega
 ·right;have ah:e∈d.toList/\e.born∉H.toList:=by
   unfold leftOf at J;simp only[X1,E8] at J;exact⟨J.1,by simpa using J.2⟩
  obtain⟨i,hi,aA⟩:=B4.1 ah.1;have ag:i<d.size:=by simpa using hi
  have aa:i<L.length:=by omega
  have e0:d[i]=e:=by simpa using aA
  have aj:i∉is:=by
   intro am;exact ah.2 (by rw[<-e0];exact(au i ag).2 am)
  have U:(e.key,e.val)=(ke L[i].1,ve L[i].2):=by
   have:=Γ (λl=>l[i]?) af;simp[ag,aa,e0] at this;simp[this]
  simp only[C8] at U;have aK:w1.heap[r]? =ϊ (.mapIter (ϊ b) N H ao):=by rcases ab with rfl | rfl<;>exact ak
  have aD:w1.heap[b]? =ϊ (.map d I):=by rcases ab with rfl | rfl<;>exact Y
  have aL:b≠r:=by intro e;rw[e,ak] at Y;cases Y
  have ax:(setBlock w1 r (.mapIter (ϊ b) N (H.push e.born) I)).heap[r]? =ϊ (.mapIter (ϊ b) N (H.push e.born) I):=by
   simp only[setBlock];rw[Array.getElem?_setIfInBounds_self_of_lt (lt_of_block aK)]
  have ar:(setBlock w1 r (.mapIter (ϊ b) N (H.push e.born) I)).heap[b]? =ϊ (.map d I):=by
   simp only[setBlock];rw[O1 (λe=>aL e.symm)];exact aD
  have aI:is.length<L.length:=by
   have aJ:(is++[i]).Nodup:=by
    rw[G8];refine⟨an,η,λa ae c O=> ?_⟩;simp at O;subst O;intro e;subst e;exact aj ae
   have:is++[i] ⊆ List.range L.length:=λj G=>by
    simp at G;rcases G with G | rfl
    ·exact M5.2 (ac j G)
    ·exact M5.2 aa
   have:=uZ aJ this;simp at this;omega
  refine⟨i,aa,setBlock w1 r (.mapIter (ϊ b) N (H.push e.born) I),aj,aI,λad=>by rw[<-U.1,<-U.2];exact al,⟨⟨d,I,N,I,H.push e.born,ax,ar, ?_,af,ai,ay,ap,ap,aF⟩, ?_, ?_,aH⟩, ?_, ?_, ?_⟩
  ·simp[az,ag,e0]
  ·rw[G8];refine⟨an,η,λa ae c O=> ?_⟩;simp at O;subst O;intro e;subst e;exact aj ae
  ·intro j G;simp at G;rcases G with G | rfl
   ·exact ac j G
   ·exact aa
  ·have:=zG w1 r (.mapIter (ϊ b) N (H.push e.born) I);rcases ab with rfl | rfl
   ·exact this
   ·exact⟨this.os,this.tape,this.output,this.size,this.block⟩
  ·rw[zD];rcases ab with rfl | rfl<;>rfl
  ·rw[run_entry_at _ r b N H d I e ax ar ah.1 ai,U.1,U.2]
def uO (w:World) (b r:Nat):Nat:=match w.heap[r]?,w.heap[b]? with
 | some (.mapIter _ _ seen _),ϊ (.map es _)=>es.size-seen.size
 | _,_=>0
def jW.left (h:jW w r b ke ve L is):uO w b r=L.length-is.length:=by
 obtain⟨⟨d,aa,ab,Y,U,N,I,O,J,_⟩,_⟩:=h;have G:d.size=L.length:=by
  have:=Γ List.length J
  simpa using this
 have H:U.size=is.length:=by
  have:=Γ List.length O
  simpa using this
 unfold uO;rw[N,I];simp only[G,H]
def zj (L:List (K×V)) (is:List Nat):List (K×V):=is.filterMap λi=>L[i]?
def uW (hi:i<L.length):zj L (is++[i])=zj L is++[L[i]]:=by
 simp[zj,M2,hi]
def jW.perm (h:jW w r b ke ve L is) (I:is.length=L.length):(zj L is).Perm L:=by
 have N:is ⊆ List.range L.length:=λi hi=>M5.2 (h.lt i hi)
 have J:is.Perm (List.range L.length):=XE h.nd N (by simp[I]);have d:=J.filterMap (λi=>L[i]?);have G:(List.range L.length).filterMap (λi=>L[i]?)=L:=by
  refine M3 λj=> ?_
  have H: ∀n,n<=L.length->(List.range n).filterMap (λi=>L[i]?)=L.take n:=by
   intro n
   induction n with
   | zero=>simp
   | succ n ih=>
    intro O;rw[List.range_succ,M2,ih τ,ϡ τ];simp[show n<L.length by omega]
  rw[H L.length (ϔ _),Ϩ]
 rw[G] at d;exact d
end
def Ab {G:TypeId} (d:P.underlying G=ϊ (.int q)):yz P G (Value.int q):=
 yz.of_now d (λa b=>by simp[Instr.sameNow];rw[D2];simp) (λb k w=>by
  rw[show (10000:Nat)=9999+1 from rfl];unfold Instr.checkKey;rw[Sem.run_bind,run_underlying d]
  rfl) (λk=>by simp[Instr.sameBits])
abbrev Bk:=List ((Int×Int)×Int)
variable {m:Bk}
def ke2 (k:Int×Int):Value:= .agg #[.int .i64 k.1,.int .i64 k.2]
def PN (a b:Int×Int) (w:World):(Op.equal 233 (ke2 a) (ke2 b)).run prog w= .ok (decide (a=b)) w:=by
 have J:prog.stoodInHeld 233=ύ:=by kernel_rfl
 obtain⟨d,G⟩:=a;obtain⟨H,I⟩:=b;unfold Op.equal ke2;rw[show Op.maxDepth=9999+1 from rfl,run_equalIn_agg w 9999 233 _ _ ξ J];simp[go_sem];by_cases e1:d=H<;>by_cases e2:G=I<;>simp[e1,e2]
def Dg (G:P.underlying d=ϊ (.int q)) (n:Nat) (H:0<n) (b:Bool) (x:Int) (w:World):(Instr.checkKey b n d (.int q x)).run P w= .ok () w:=by
 obtain⟨m,rfl⟩: ∃m,n=m+1:=⟨n-1,τ⟩;unfold Instr.checkKey;rw[Sem.run_bind,run_underlying G];rfl
def Ys:yz prog 233 ke2:=
 yz.of_ask underlying233 (λa b=>by simp[Instr.sameNow]) PN (λb k w=>by
  rw[show (10000:Nat)=9999+1 from rfl];unfold Instr.checkKey ke2
  simp[run_underlying underlying233,go_sem,Dg underlying3 9999 ζ]) (λk=>by simp[Instr.sameBits,ke2])
structure jy (w:World) (B b:Nat) (m:Bk):Prop where
 blk:w.heap[B]? =ϊ (.cells #[.map (ϊ b)] 231 (0,0))
 map:jk w b ke2 (Value.int .i64) m
 ok: ∀p∈m,0<=p.2/\p.2<=8
def jy.ne {b:Nat} (h:jy w B b m):B≠b:=by
 intro e;obtain⟨H,G,d,_⟩:=h.map.ex;have:=h.blk;rw[e,d] at this;cases this
def jy.more {b:Nat} (h:jy w B b m) (d:ql w w'):jy w' B b m:=⟨qq d h.blk,h.map.more d,h.ok⟩
def jy.away {b:Nat} (h:jy w B b m) (a:jt S w w') (d: ¬S B) (G: ¬S b):jy w' B b m:=⟨a.blk h.blk d,h.map.away a G,h.ok⟩
def Gu (w:World):(zeroValue 123).run prog w= .ok (ι 0) w:=by kernel_rfl
def jy.look {b:Nat} (h:jy w B b m) (k:Int×Int) (n:Nat):
  (Instr.lookup 229 (.map (ϊ b)) (θ #[ι k.1,ι k.2]) ό).run prog (w.drewN n)= .ok (.tuple #[ι ((qh m k).getD 0),μ (qh m k).isSome]) (w.drewN n):=by
 have:=(h.map.more (ql.drewN w n)).look Ys underlying229 (Gu _) k ό;unfold ke2 at this;rw[this];cases qh m k<;>rfl
def Nv (w:World):Calls prog 92 #[] w λe w'=> ∃B b,e= .returned (γ B)/\w.heap.size<=B/\w.heap.size<=b/\jy w' B b []/\ql w w':=by
 go_enter func92,ntmps92
 have d:= @run_makeMap prog;go_wp2;go_ret;exact⟨w.heap.size+1,w.heap.size,rfl,τ,τ,⟨qC η,(jk.made w ke2 (Value.int .i64)).more X6,η⟩,X6.al _⟩
def MK {b:Nat} (h:jy w B b m) (k:Int×Int):
  Calls prog 294 #[γ B,θ #[ι k.1,ι k.2]] w λe w'=>e= .returned (.tuple #[ι ((qh m k).getD 0),μ (qh m k).isSome])/\ql w w':=by
 have d:=h.more (ql.alloc w (.cells #[ι k.1,ι k.2] 233));have H:=β0 d.blk;have q:=d.look k;clear d h
 go_enter func294,ntmps294
 go_wp2;refine wp_region_quiet_lit ξ ξ ?_
 repeat (go_big_quiet_step (fail))
 refine wpQuiet_nil ?_;intro _ G;obtain⟨nq,rfl⟩:=G;go_wp2
 go_ret2
 exact⟨rfl,X6.dr _⟩
def vT (m:Bk) (k:Int×Int):Bk×Int:=if 0<=k.1/\k.1<6/\0<=k.2 then (if (qh m k).isSome then (m,6) else (qx m k 0,0)) else (m,1)
def zi (m:Bk) (k:Int×Int) (f:Int):Bk×Int:=if 1<=f/\f<=8 then (if (qh m k).isSome then (if (qh m k).getD 0=0 then (qx m k f,0) else (m,6)) else (m,5)) else (m,1)
def VE {K V:Type} [DecidableEq K] {k:K} {v:V}: ∀{m:List (K×V)} {p:K×V},p∈qx m k v->p∈m∨p=(k,v)
 | [],p,h=>by simp[qx] at h;exact ϕ h
 | (a,b)::l,p,h=>by
  unfold qx at h;split at h
  ·rcases Ϟ.1 h with h | h
   ·exact ϕ h
   ·exact ϑ (ϛ _ h)
  ·rcases Ϟ.1 h with h | h
   ·exact ϑ (by rw[h];exact ϟ)
   ·rcases VE h with h | h
    ·exact ϑ (ϛ _ h)
    ·exact ϕ h
def jy.put {b:Nat} (h:jy w B b m) (a:jt (λx=>x=b) w w') {k:Int×Int} {f:Int} (G:0<=f/\f<=8) (H:jk w' b ke2 (Value.int .i64) (qx m k f)):jy w' B b (qx m k f):=
 ⟨a.blk h.blk h.ne,H,λp d=>by
  rcases VE d with d | rfl
  ·exact h.ok p d
  ·exact G⟩
def Nu {b:Nat} (h:jy w B b m) (k:Int×Int):
  Calls prog 245 #[γ B,θ #[ι k.1,ι k.2]] w λe w'=>e= .returned (ι (vT m k).2)/\jy w' B b (vT m k).1/\jt (λx=>x=b) w w':=by
 have I:=h.more (ql.alloc w (.cells #[ι k.1,ι k.2] 233));have ag:=β0 I.blk;have q:=I.look k;have H:=κ I;clear I h;have ac:k.1<0∨(¬k.1<0/\6<=k.1)∨(¬k.1<0/\ ¬6<=k.1/\k.2<0)∨(¬k.1<0/\ ¬6<=k.1/\ ¬k.2<0):=by omega
 rcases ac with g1 | ⟨g1,g2⟩ | ⟨g1,g2,g3⟩ | ⟨g1,g2,g3⟩
 ·have d:vT m k=(m,1):=by unfold vT;rw[Ϗ τ]
  have G:=κ d;clear d q
  go_enter func245,ntmps245
  go_wp2;go_ret;rw[G.o];exact⟨rfl,H.o,jt.of_more X6⟩
 ·have d:vT m k=(m,1):=by unfold vT;rw[Ϗ τ]
  have G:=κ d;clear d q
  go_enter func245,ntmps245
  go_wp2;go_ret;rw[G.o];exact⟨rfl,H.o,jt.of_more X6⟩
 ·have d:vT m k=(m,1):=by unfold vT;rw[Ϗ τ]
  have G:=κ d;clear d q
  go_enter func245,ntmps245
  go_wp2;go_ret;rw[G.o];exact⟨rfl,H.o,jt.of_more X6⟩
 ·cases hs:(qh m k).isSome with
  | true=>
   have d:vT m k=(m,6):=by unfold vT;rw[ϓ τ,hs];rfl
   have G:=κ d;simp only[hs] at q;clear d hs
   go_enter func245,ntmps245
   go_wp2;refine wp_region_quiet_lit ξ ξ ?_
   repeat (go_big_quiet_step (fail))
   refine wpQuiet_nil ?_;intro _ J;obtain⟨nq,rfl⟩:=J;go_wp2;go_ret;rw[G.o];exact⟨rfl,H.o.more (ql.drewN _ _),jt.of_more (X6.dr _)⟩
  | false=>
   have d:vT m k=(qx m k 0,0):=by unfold vT;rw[ϓ τ,hs];rfl
   have G:=κ d;simp only[hs] at q;clear d hs
   go_enter func245,ntmps245
   go_wp2;refine wp_region_quiet_lit ξ ξ ?_
   repeat (go_big_quiet_step (fail))
   refine wpQuiet_nil ?_;intro _ J;obtain⟨nq,rfl⟩:=J
   go_wp2_with fail
   have ad:=λ(x:qt (w.alloc (.cells #[ι k.1,ι k.2] 233)))=>β0 (qq x.h H.o.blk)
   have ae: ∀x:qt (w.alloc (.cells #[ι k.1,ι k.2] 233)),x.w'.cell? ⟨w.heap.size,0,ϋ⟩=ϊ (ι k.1):=λx=>x.new 0 rfl
   have af: ∀x:qt (w.alloc (.cells #[ι k.1,ι k.2] 233)),x.w'.cell? ⟨w.heap.size,1,ϋ⟩=ϊ (ι k.2):=λx=>x.new 1 rfl
   refine Qn (w.alloc (.cells #[ι k.1,ι k.2] 233)) 5 6 [5] ?_
   refine Qq5 ?_
   obtain⟨w9,ab,Y,U,_⟩:=(H.o.map.more (ql.drewN _ (nq+1))).update Ys underlying229 k 0;unfold ke2 at ab;have aa:=κ Y;have N:=κ U;clear Y U
   (refine Qe ?_;intro K O)
   refine O _ _ ?_;clear O K;refine qA ?_;go_wp2;go_ret;rw[G.o];exact⟨rfl,(H.o.more (ql.drewN _ (nq+1))).put N.o ζ aa.o,(jt.of_more (X6.dr _)).trans N.o⟩
def yP (f:Int) (w:World) (h:1<=f/\f<=8):Calls prog 106 #[ι f] w λe w'=>e= .returned (μ ό)/\w=w':=by
 obtain⟨d,G⟩:=h
 go_enter func106,ntmps106
 go_wp2;go_ret;exact⟨rfl,rfl⟩
def Jh (f:Int) (w:World) (h: ¬(1<=f/\f<=8)):Calls prog 106 #[ι f] w λe w'=>e= .returned (μ ύ)/\w=w':=by
 have d:f<1∨(¬f<1/\8<f):=by omega
 clear h;rcases d with h1 | ⟨h1,h2⟩
 ·go_enter func106,ntmps106
  go_wp2;go_ret;exact⟨rfl,rfl⟩
 ·go_enter func106,ntmps106
  go_wp2;go_ret;exact⟨qZ (by simp;omega),rfl⟩
def F0 {b:Nat} (h:jy w B b m) (k:Int×Int) (f:Int):
  Calls prog 229 #[γ B,θ #[ι k.1,ι k.2],ι f] w λe w'=>e= .returned (ι (zi m k f).2)/\jy w' B b (zi m k f).1/\jt (λx=>x=b) w w':=by
 have N:=h.more (ql.alloc w (.cells #[ι k.1,ι k.2] 233));have ag:=β0 N.blk;have q:=N.look k;have I:=κ N;clear N h;by_cases hf:1<=f/\f<=8
 ·have G:=κ hf;clear hf;cases hs:(qh m k).isSome with
  | false=>
   have d:zi m k f=(m,5):=by unfold zi;rw[ϓ G.o,hs];rfl
   have H:=κ d;simp only[hs] at q;clear d hs
   go_enter func229,ntmps229
   go_wp2_with (go_at_call 106;((with_reducible refine(yP f _ G.o).mono ?_);rintro e w2 ⟨rfl,rfl⟩))
   refine wp_region_quiet_lit ξ ξ ?_
   repeat (go_big_quiet_step (fail))
   refine wpQuiet_nil ?_;intro _ J;obtain⟨nq,rfl⟩:=J;go_wp2;go_ret;rw[H.o];exact⟨rfl,I.o.more (ql.drewN _ _),jt.of_more (X6.dr _)⟩
  | true=>
   by_cases hv:(qh m k).getD 0=0
   ·have d:zi m k f=(qx m k f,0):=by unfold zi;rw[ϓ G.o,ϓ hs,ϓ hv]
    have H:=κ d;simp only[hs,hv] at q;clear d hs hv
    go_enter func229,ntmps229
    go_wp2_with (go_at_call 106;((with_reducible refine(yP f _ G.o).mono ?_);rintro e w2 ⟨rfl,rfl⟩))
    refine wp_region_quiet_lit ξ ξ ?_
    repeat (go_big_quiet_step (fail))
    refine wpQuiet_nil ?_;intro _ J;obtain⟨nq,rfl⟩:=J
    go_wp2_with fail
    have ad:=λ(x:qt (w.alloc (.cells #[ι k.1,ι k.2] 233)))=>β0 (qq x.h I.o.blk)
    have ae: ∀x:qt (w.alloc (.cells #[ι k.1,ι k.2] 233)),x.w'.cell? ⟨w.heap.size,0,ϋ⟩=ϊ (ι k.1):=λx=>x.new 0 rfl
    have af: ∀x:qt (w.alloc (.cells #[ι k.1,ι k.2] 233)),x.w'.cell? ⟨w.heap.size,1,ϋ⟩=ϊ (ι k.2):=λx=>x.new 1 rfl
    refine Qn (w.alloc (.cells #[ι k.1,ι k.2] 233)) 6 7 [6] ?_
    refine Qq6 ?_
    obtain⟨w9,ac,aa,Y,_⟩:=(I.o.map.more (ql.drewN _ (nq+1))).update Ys underlying229 k f;unfold ke2 at ac;have ab:=κ aa;have O:=κ Y;clear aa Y
    (refine Qe ?_;intro K U)
    refine U _ _ ?_;clear U K;refine qA ?_;go_wp2;go_ret;rw[H.o];exact⟨rfl,(I.o.more (ql.drewN _ (nq+1))).put O.o (by have:=G.o;omega) ab.o,(jt.of_more (X6.dr _)).trans O.o⟩
   ·have d:zi m k f=(m,6):=by unfold zi;rw[ϓ G.o,ϓ hs,Ϗ hv]
    have H:=κ d;simp only[hs] at q;generalize (qh m k).getD 0=fv at *;have ah:(fv != 0)=ό:=by simpa using hv
    clear d hs hv
    go_enter func229,ntmps229
    go_wp2_with (go_at_call 106;((with_reducible refine(yP f _ G.o).mono ?_);rintro e w2 ⟨rfl,rfl⟩))
    refine wp_region_quiet_lit ξ ξ ?_
    repeat (go_big_quiet_step (fail))
    refine wpQuiet_nil ?_;intro _ J;obtain⟨nq,rfl⟩:=J;go_wp2;go_ret;rw[H.o];exact⟨rfl,I.o.more (ql.drewN _ _),jt.of_more (X6.dr _)⟩
 ·have d:zi m k f=(m,1):=by unfold zi;rw[Ϗ hf]
  have H:=κ d;have G:=κ hf;clear d q hf
  go_enter func229,ntmps229
  go_wp2_with (go_at_call 106;((with_reducible refine(Jh f _ G.o).mono ?_);rintro e w2 ⟨rfl,rfl⟩))
  go_ret;rw[H.o];exact⟨rfl,I.o,jt.of_more X6⟩
abbrev Og:=Int×Int
abbrev Sb:=Int×Bool×Int
structure TS where
 o:List (Int×Og)
 s:List (Og×Int)
 u:List (Int×Sb)
variable {t:TS}
def kO (k:Og):Value:= .agg #[.int .i64 k.1,.int .i64 k.2]
def vS (x:Sb):Value:= .agg #[.int .u32 x.1,.bool x.2.1,.int .i64 x.2.2]
def PK (a b:Og) (w:World):(Op.equal 111 (kO a) (kO b)).run prog w= .ok (decide (a=b)) w:=by
 have J:prog.stoodInHeld 111=ύ:=by kernel_rfl
 obtain⟨d,G⟩:=a;obtain⟨H,I⟩:=b;unfold Op.equal kO;rw[show Op.maxDepth=9999+1 from rfl,run_equalIn_agg w 9999 111 _ _ ξ J];simp[go_sem];by_cases e1:d=H<;>by_cases e2:G=I<;>simp[e1,e2]
def Ga (G:P.underlying d=ϊ (.int q)) (n:Nat) (H:0<n) (b:Bool) (x:Int) (w:World):(Instr.checkKey b n d (.int q x)).run P w= .ok () w:=by
 obtain⟨m,rfl⟩: ∃m,n=m+1:=⟨n-1,τ⟩;unfold Instr.checkKey;rw[Sem.run_bind,run_underlying G];rfl
def Yr:yz prog 111 kO:=
 yz.of_ask underlying111 (λa b=>by simp[Instr.sameNow]) PK (λb k w=>by
  rw[show (10000:Nat)=9999+1 from rfl];unfold Instr.checkKey kO
  simp[run_underlying underlying111,go_sem,Ga underlying3 9999 ζ]) (λk=>by simp[Instr.sameBits,kO])
def Aa:yz prog 69 (Value.int .u32):=Ab underlying69
def kE:yz prog 3 (Value.int .i64):=Ab underlying3
structure jq (w:World) (T a b c:Nat) (t:TS):Prop where
 blk:w.heap[T]? =ϊ (.cells #[.map (ϊ a),.map (ϊ b),.map (ϊ c)] 186 (0,0))
 mo:jk w a (Value.int .u32) kO t.o
 ms:jk w b kO (Value.int .u32) t.s
 mu:jk w c (Value.int .i64) vS t.u
 ab:a≠b
 ac:a≠c
 bc:b≠c
def KU {K V:Type} {b:Nat} {t:TypeId} {ke:K->Value} {H:V->Value} {L:List (K×V)} (h:w.heap[B]? =ϊ (.cells cs t (0,0))) (G:jk w b ke H L):B≠b:=by
 intro e;obtain⟨J,I,d,_⟩:=G.ex;rw[e,d] at h;cases h
def jq.more {b:Nat} (h:jq w T a b c t) (m:ql w w'):jq w' T a b c t:=⟨qq m h.blk,h.mo.more m,h.ms.more m,h.mu.more m,h.ab,h.ac,h.bc⟩
def jq.away {b:Nat} (h:jq w T a b c t) (m:jt S w w') (d: ¬S T) (G: ¬S a) (H: ¬S b) (I: ¬S c):jq w' T a b c t:=⟨m.blk h.blk d,h.mo.away m G,h.ms.away m H,h.mu.away m I,h.ab,h.ac,h.bc⟩
def jq.putO {b:Nat} (h:jq w T a b c t) (m:jt (λz=>z=a) w w') {o:List (Int×Og)} (d:jk w' a (Value.int .u32) kO o):jq w' T a b c {t with o:=o}:=
 ⟨m.blk h.blk (KU h.blk h.mo),d,h.ms.away m (λe=>h.ab e.symm),h.mu.away m (λe=>h.ac e.symm),h.ab,h.ac,h.bc⟩
def jq.putS {b:Nat} (h:jq w T a b c t) (m:jt (λz=>z=b) w w') {s:List (Og×Int)} (d:jk w' b kO (Value.int .u32) s):jq w' T a b c {t with s:=s}:=
 ⟨m.blk h.blk (KU h.blk h.ms),h.mo.away m h.ab,d,h.mu.away m (λe=>h.bc e.symm),h.ab,h.ac,h.bc⟩
def jq.putU {b:Nat} (h:jq w T a b c t) (m:jt (λz=>z=c) w w') {u:List (Int×Sb)} (d:jk w' c (Value.int .i64) vS u):jq w' T a b c {t with u:=u}:=
 ⟨m.blk h.blk (KU h.blk h.mu),h.mo.away m h.ac,h.ms.away m h.bc,d,h.ab,h.ac,h.bc⟩
def Aq (w:World):(zeroValue 111).run prog w= .ok (θ #[ι 0,ι 0]) w:=by kernel_rfl
def Ap (w:World):(zeroValue 69).run prog w= .ok (ω 0) w:=by kernel_rfl
def Vi (w:World):(zeroValue 193).run prog w= .ok (θ #[ω 0,ύ,ι 0]) w:=by kernel_rfl
def jq.lookO {b:Nat} (h:jq w T a b c t) (s:Int):
  (Instr.lookup 182 (.map (ϊ a)) (ω s) ό).run prog w= .ok (.tuple #[θ #[ι ((qh t.o s).getD (0,0)).1,ι ((qh t.o s).getD (0,0)).2],μ (qh t.o s).isSome]) w:=by
 rw[h.mo.look Aa underlying182 (Aq w) s ό];cases qh t.o s<;>rfl
def jq.lookS {b:Nat} (h:jq w T a b c t) (k:Og):
  (Instr.lookup 183 (.map (ϊ b)) (θ #[ι k.1,ι k.2]) ό).run prog w= .ok (.tuple #[ω ((qh t.s k).getD 0),μ (qh t.s k).isSome]) w:=by
 have:=h.ms.look Yr underlying183 (Ap w) k ό;unfold kO at this;rw[this];cases qh t.s k<;>rfl
def sb0:Sb:=(0,ύ,0)
def jq.lookU {b:Nat} (h:jq w T a b c t) (x:Int):
  (Instr.lookup 184 (.map (ϊ c)) (ι x) ό).run prog w= .ok (.tuple #[θ #[ω ((qh t.u x).getD sb0).1,μ ((qh t.u x).getD sb0).2.1,ι ((qh t.u x).getD sb0).2.2],μ (qh t.u x).isSome]) w:=by
 rw[h.mu.look kE underlying184 (Vi w) x ό];cases qh t.u x<;>rfl
def jq.lookU1 {b:Nat} (h:jq w T a b c t) (x:Int):
  (Instr.lookup 184 (.map (ϊ c)) (ι x) ύ).run prog w= .ok (θ #[ω ((qh t.u x).getD sb0).1,μ ((qh t.u x).getD sb0).2.1,ι ((qh t.u x).getD sb0).2.2]) w:=by
 rw[h.mu.look kE underlying184 (Vi w) x ύ];cases qh t.u x<;>rfl
def Mv (w:World):Calls prog 93 #[] w λe w'=> ∃T a b c,e= .returned (γ T)/\w.heap.size<=T/\w.heap.size<=a/\w.heap.size<=b/\w.heap.size<=c/\jq w' T a b c ⟨[],[],[]⟩/\ql w w':=by
 go_enter func93,ntmps93
 have d:= @run_makeMap prog;go_wp2;go_ret;refine⟨w.heap.size+3,w.heap.size,w.heap.size+1,w.heap.size+2,η,τ,τ,τ,τ,⟨qC η,(jk.made w _ _).more ((X6.al _).al _), ?_, ?_,τ,τ,τ⟩,((X6.al _).al _).al _⟩
 ·have:=(jk.made (w.alloc (.map #[] 0)) kO (Value.int .u32)).more ((ql.alloc _ (.map #[] 0)).al (.cells #[.map (ϊ w.heap.size),.map (ϊ (w.heap.size+1)),.map (ϊ (w.heap.size+2))] 186))
  simpa using this
 ·have:=(jk.made ((w.alloc (.map #[] 0)).alloc (.map #[] 0)) (Value.int .i64) vS).more (ql.alloc _ (.cells #[.map (ϊ w.heap.size),.map (ϊ (w.heap.size+1)),.map (ϊ (w.heap.size+2))] 186))
  simpa using this
def Le {b:Nat} (h:jq w T a b c t) (s:Int):
  Calls prog 187 #[γ T,ω s] w λe w'=>e= .returned (.tuple #[θ #[ι ((qh t.o s).getD (0,0)).1,ι ((qh t.o s).getD (0,0)).2],μ (qh t.o s).isSome])/\ql w w':=by
 have d:=h.more (ql.alloc w (.cells #[ι 0,ι 0] 111));have G:=β0 d.blk;have q:=d.lookO s;clear d h;generalize (qh t.o s).getD (0,0)=x at *
 go_enter func187,ntmps187
 go_wp2
 (refine bodyPost_ret (v:= .tuple #[θ #[ι x.1,ι x.2],μ (qh t.o s).isSome]) ?rr1 rfl ?_;(case rr1=>(simp[results,results187,go_sem])))
 exact⟨rfl,X6.al _⟩
def CC {b:Nat} (h:jq w T a b c t) (k:Og):
  Calls prog 122 #[γ T,θ #[ι k.1,ι k.2]] w λe w'=>e= .returned (.tuple #[ω ((qh t.s k).getD 0),μ (qh t.s k).isSome])/\ql w w':=by
 have d:=h.more (ql.alloc w (.cells #[ι k.1,ι k.2] 111));have H:=β1 d.blk;have q:=λn=>(d.more (ql.drewN _ n)).lookS k
 clear d h
 go_enter func122,ntmps122
 go_wp2;refine wp_region_quiet_lit ξ ξ ?_
 repeat (go_big_quiet_step (fail))
 refine wpQuiet_nil ?_;intro _ G;obtain⟨nq,rfl⟩:=G;go_wp2
 go_ret2
 exact⟨rfl,X6.dr _⟩
def LH {b:Nat} (h:jq w T a b c t) (x:Int):
  Calls prog 64 #[γ T,ι x] w λe w'=>e= .returned (.tuple #[ι ((qh t.u x).getD sb0).2.2,μ ((qh t.u x).getD sb0).2.1])/\ql w w':=by
 have G:=β2 h.blk;have q:=h.lookU1 x;clear h;generalize (qh t.u x).getD sb0=y at *
 go_enter func64,ntmps64
 go_wp2;refine wp_region_quiet_lit ξ ξ ?_
 repeat (go_big_quiet_step (fail))
 refine wpQuiet_nil ?_;intro _ d;obtain⟨nq,rfl⟩:=d;go_wp2
 go_ret2
 exact⟨rfl,X6.dr _⟩
def yC {b:Nat} (h:jq w T a b c t) (p:Int):
  Calls prog 96 #[γ T,ι p] w λe w'=>e= .returned (μ (qh t.s (p,0)).isSome)/\w=w':=by
 have d:=β1 h.blk;have q:=h.lookS (p,0);simp only at q;clear h
 go_enter func96,ntmps96
 go_wp2;go_ret;exact⟨rfl,rfl⟩
def vw (p:Int) (w:World) (h:0<=p/\p<3):Calls prog 94 #[ι p] w λe w'=>e= .returned (μ ό)/\w=w':=by
 obtain⟨d,G⟩:=h
 go_enter func94,ntmps94
 go_wp2;go_ret;exact⟨qZ (by simp<;>omega),rfl⟩
def Z8 (p:Int) (w:World) (h: ¬(0<=p/\p<3)):Calls prog 94 #[ι p] w λe w'=>e= .returned (μ ύ)/\w=w':=by
 have d:p<0∨(0<=p/\3<=p):=by omega
 clear h;rcases d with h1 | ⟨h1,h2⟩
 ·go_enter func94,ntmps94
  go_wp2;go_ret;exact⟨qZ η,rfl⟩
 ·go_enter func94,ntmps94
  go_wp2;go_ret;exact⟨qZ (by simp<;>omega),rfl⟩
def xe (p:Int) (w:World) (h:0<=p/\p<6):Calls prog 97 #[ι p] w λe w'=>e= .returned (μ ό)/\w=w':=by
 obtain⟨d,G⟩:=h
 go_enter func97,ntmps97
 go_wp2;go_ret;exact⟨qZ (by simp<;>omega),rfl⟩
def wl (p:Int) (w:World) (h: ¬(0<=p/\p<6)):Calls prog 97 #[ι p] w λe w'=>e= .returned (μ ύ)/\w=w':=by
 have d:p<0∨(0<=p/\6<=p):=by omega
 clear h;rcases d with h1 | ⟨h1,h2⟩
 ·go_enter func97,ntmps97
  go_wp2;go_ret;exact⟨qZ η,rfl⟩
 ·go_enter func97,ntmps97
  go_wp2;go_ret;exact⟨qZ (by simp<;>omega),rfl⟩
def yI (t:TS) (x own:Int):TS×Int:=if 0<=x/\x<6 then (if (qh t.u x).isSome then (t,6) else ({t with u:=qx t.u x (own,ύ,0)},0)) else (t,1)
def zW (t:TS) (x:Int):TS×Int:=if 0<=x/\x<6 then (if (qh t.u x).isSome then ({t with u:=yK t.u x},0) else (t,5)) else (t,1)
def vL (t:TS) (x p:Int):TS×Int:=if (0<=x/\x<6)/\(0<=p/\p<3) then (if (qh t.u x).isSome/\(qh t.s (p,0)).isSome then (if ((qh t.u x).getD sb0).2.1 then (t,6) else ({t with u:=qx t.u x (((qh t.u x).getD sb0).1,ό,p)},0)) else (t,5)) else (t,1)
def zM (t:TS) (x:Int):TS×Int:=if 0<=x/\x<6 then (if (qh t.u x).isSome/\((qh t.u x).getD sb0).2.1 then ({t with u:=qx t.u x (((qh t.u x).getD sb0).1,ύ,0)},0) else (t,5)) else (t,1)
def jB {f:FuncId} {args:Array Value} {b:Nat} {r:TS×Int} {t':TS} {v:Int} (hr:r=(t',v)) (h:Calls P f args w λe w'=>e= .returned (ι v)/\jq w' T a b c t'/\jt (λz=>z=c) w w'):
  Calls P f args w λe w'=>e= .returned (ι r.2)/\jq w' T a b c r.1/\jt (λz=>z=c) w w':=by
 subst hr;exact h
def Ld {b:Nat} (h:jq w T a b c t) (x own:Int):
  Calls prog 58 #[γ T,ι x,ω own] w λe w'=>e= .returned (ι (yI t x own).2)/\jq w' T a b c (yI t x own).1/\jt (λz=>z=c) w w':=by
 have c2:=β2 h.blk;have q:=h.lookU x;have HT:=κ h;by_cases hx:0<=x/\x<6
 ·have HX:=κ hx;obtain⟨y,hy⟩:=ν ((qh t.u x).getD sb0);rw[hy] at q;clear hy;cases hs:(qh t.u x).isSome with
  | true=>
   refine jB (t':=t) (v:=6) (by unfold yI;rw[ϓ hx,ϓ hs]) ?_;rw[hs] at q;clear hx hs h
   go_enter func58,ntmps58
   go_wp2_with (go_at_call 97;(go_call xe x _ HX.o as e w2 ⟨rfl,rfl⟩))
   go_ret;exact⟨rfl,HT.o.more X6,jt.of_more X6⟩
  | false=>
   refine jB (t':={t with u:=qx t.u x (own,ύ,0)}) (v:=0) (by unfold yI;rw[ϓ hx,hs];rfl) ?_;rw[hs] at q;clear hx hs h;have c3:=β2 (qs HT.o.blk (.cells #[ω y.1,y.2.1,ι y.2.2] 193));obtain⟨w9,hr,hm,ha,_⟩:=(HT.o.mu.more (ql.alloc w (.cells #[ω y.1,y.2.1,ι y.2.2] 193))).update kE underlying184 x (own,ύ,0);unfold vS at hr;simp only at hr;have HM:=κ hm;have HA:=κ ha;clear hm ha
   go_enter func58,ntmps58
   go_wp2_with (go_at_call 97;(go_call xe x _ HX.o as e w2 ⟨rfl,rfl⟩))
   go_ret;exact⟨rfl,(HT.o.more (ql.alloc w _)).putU HA.o HM.o,(jt.of_more X6).trans HA.o⟩
 ·have HX:=κ hx;refine jB (t':=t) (v:=1) (by unfold yI;rw[Ϗ hx]) ?_;clear hx q
  go_enter func58,ntmps58
  go_wp2_with (go_at_call 97;(go_call wl x _ HX.o as e w2 ⟨rfl,rfl⟩))
  go_ret;exact⟨rfl,HT.o,jt.refl _ _⟩
def qbC {b:Nat} (h:jq w T a b c t) (x:Int):
  Calls prog 65 #[γ T,ι x] w λe w'=>e= .returned (ι (zW t x).2)/\jq w' T a b c (zW t x).1/\jt (λz=>z=c) w w':=by
 have c2:=β2 h.blk;have q:=h.lookU x;have HT:=κ h;by_cases hx:0<=x/\x<6
 ·have HX:=κ hx;obtain⟨y,hy⟩:=ν ((qh t.u x).getD sb0);rw[hy] at q;clear hy;cases hs:(qh t.u x).isSome with
  | false=>
   refine jB (t':=t) (v:=5) (by unfold zW;rw[ϓ hx,hs];rfl) ?_;rw[hs] at q;clear hx hs h
   go_enter func65,ntmps65
   go_wp2_with (go_at_call 97;(go_call xe x _ HX.o as e w2 ⟨rfl,rfl⟩))
   go_ret;exact⟨rfl,HT.o.more X6,jt.of_more X6⟩
  | true=>
   refine jB (t':={t with u:=yK t.u x}) (v:=0) (by unfold zW;rw[ϓ hx,ϓ hs]) ?_;rw[hs] at q;clear hx hs h;have c3:=β2 (qs HT.o.blk (.cells #[ω y.1,y.2.1,ι y.2.2] 193));obtain⟨w9,hr,hm,ha,_⟩:=(HT.o.mu.more (ql.alloc w (.cells #[ω y.1,y.2.1,ι y.2.2] 193))).drop kE underlying184 x 0;have hr: ∀ty,(Builtin.delete_ #[184,3] ty #[.map (ϊ c),ι x]).run prog (w.alloc (.cells #[ω y.1,y.2.1,ι y.2.2] 193))= .ok (.tuple #[]) w9:=λ_=>hr
   have HM:=κ hm;have HA:=κ ha;clear hm ha
   go_enter func65,ntmps65
   go_wp2_with (go_at_call 97;(go_call xe x _ HX.o as e w2 ⟨rfl,rfl⟩))
   go_ret;exact⟨rfl,(HT.o.more (ql.alloc w _)).putU HA.o HM.o,(jt.of_more X6).trans HA.o⟩
 ·have HX:=κ hx;refine jB (t':=t) (v:=1) (by unfold zW;rw[Ϗ hx]) ?_;clear hx q
  go_enter func65,ntmps65
  go_wp2_with (go_at_call 97;(go_call wl x _ HX.o as e w2 ⟨rfl,rfl⟩))
  go_ret;exact⟨rfl,HT.o,jt.refl _ _⟩
def Jf {b:Nat} (h:jq w T a b c t) (x p:Int):
  Calls prog 62 #[γ T,ι x,ι p] w λe w'=>e= .returned (ι (vL t x p).2)/\jq w' T a b c (vL t x p).1/\jt (λz=>z=c) w w':=by
 have c2:=β2 h.blk;have q:=h.lookU x;have HT:=κ h;by_cases hx:0<=x/\x<6
 ·have HX:=κ hx;by_cases hp:0<=p/\p<3
  ·have HP:=κ hp;obtain⟨y,hy⟩:=ν ((qh t.u x).getD sb0);cases hs:(qh t.u x).isSome with
   | false=>
    refine jB (t':=t) (v:=5) (by unfold vL;rw[ϓ ⟨hx,hp⟩,hs];rfl) ?_;rw[hs,hy] at q;clear hx hs h hp hy
    go_enter func62,ntmps62
    go_wp2_with first | (go_at_call 97;(go_call xe x _ HX.o as e w2 ⟨rfl,rfl⟩)) | (go_at_call 94;(go_call vw p _ HP.o as e w2 ⟨rfl,rfl⟩))
    go_ret;exact⟨rfl,HT.o.more X6,jt.of_more X6⟩
   | true=>
    cases hps:(qh t.s (p,0)).isSome with
    | false=>
     refine jB (t':=t) (v:=5) (by unfold vL;rw[ϓ ⟨hx,hp⟩,hps];simp) ?_;have HPS:=κ hps;rw[hs,hy] at q;clear hx hs h hp hy hps
     go_enter func62,ntmps62
     go_wp2_with first | (go_at_call 97;(go_call xe x _ HX.o as e w2 ⟨rfl,rfl⟩)) | (go_at_call 94;(go_call vw p _ HP.o as e w2 ⟨rfl,rfl⟩)) | (go_at_call 96;(go_call yC (HT.o.more (ql.alloc w (.cells #[ω y.1,y.2.1,ι y.2.2] 193))) p as e w2 ⟨rfl,rfl⟩;rw[HPS.o]))
     go_ret;exact⟨rfl,HT.o.more X6,jt.of_more X6⟩
    | true=>
     have HPS:=κ hps;cases hb:y.2.1 with
     | true=>
      refine jB (t':=t) (v:=6) (by unfold vL;rw[ϓ ⟨hx,hp⟩,ϓ ⟨hs,hps⟩,hy,hb];rfl) ?_;rw[hs,hy,hb] at q;clear hx hs h hp hy hps hb
      go_enter func62,ntmps62
      go_wp2_with first | (go_at_call 97;(go_call xe x _ HX.o as e w2 ⟨rfl,rfl⟩)) | (go_at_call 94;(go_call vw p _ HP.o as e w2 ⟨rfl,rfl⟩)) | (go_at_call 96;(go_call yC (HT.o.more (ql.alloc w (.cells #[ω y.1,ό,ι y.2.2] 193))) p as e w2 ⟨rfl,rfl⟩;rw[HPS.o]))
      go_ret;exact⟨rfl,HT.o.more X6,jt.of_more X6⟩
     | false=>
      refine jB (t':={t with u:=qx t.u x (y.1,ό,p)}) (v:=0) (by unfold vL;rw[ϓ ⟨hx,hp⟩,ϓ ⟨hs,hps⟩,hy,hb];rfl) ?_;rw[hs,hy] at q;rw[hb] at q;clear hx hs h hp hy hps hb;have L0: ∀z:qt (w.alloc (.cells #[ω y.1,ύ,ι y.2.2] 193)),z.w'.cell? ⟨T,2,ϋ⟩=ϊ (.map (ϊ c)):=λz=>qa (qq z.h (qs HT.o.blk _)) 2 rfl
      have L1: ∀z:qt (w.alloc (.cells #[ω y.1,ύ,ι y.2.2] 193)),z.w'.cell? ⟨w.heap.size,0,ϋ⟩=ϊ (ω y.1):=λz=>z.new 0 rfl
      obtain⟨w9,hr,hm,ha,_⟩:=((HT.o.mu.more (ql.alloc w (.cells #[ω y.1,ύ,ι y.2.2] 193))).more (ql.drewN _ 1)).update kE underlying184 x (y.1,ό,p);unfold vS at hr;simp only at hr;have HM:=κ hm;have HA:=κ ha;clear hm ha
      go_enter func62,ntmps62
      go_wp2_with first | (go_at_call 97;(go_call xe x _ HX.o as e w2 ⟨rfl,rfl⟩)) | (go_at_call 94;(go_call vw p _ HP.o as e w2 ⟨rfl,rfl⟩)) | (go_at_call 96;(go_call yC (HT.o.more (ql.alloc w (.cells #[ω y.1,ύ,ι y.2.2] 193))) p as e w2 ⟨rfl,rfl⟩;rw[HPS.o]))
      refine Qn (w.alloc (.cells #[ω y.1,ύ,ι y.2.2] 193)) 9 10 [9] ?_
      refine Qq9 ?_
      (refine Qe ?_;intro K hK)
      refine hK _ _ ?_;clear hK K;refine qA ?_;go_wp2;go_ret;exact⟨rfl,((HT.o.more (ql.alloc w _)).more (ql.drewN _ 1)).putU HA.o HM.o,(jt.of_more (X6.dr 1)).trans HA.o⟩
  ·have HP:=κ hp;refine jB (t':=t) (v:=1) (by unfold vL;rw[Ϗ (λh=>hp h.2)]) ?_;clear hx q hp
   go_enter func62,ntmps62
   go_wp2_with first | (go_at_call 97;(go_call xe x _ HX.o as e w2 ⟨rfl,rfl⟩)) | (go_at_call 94;(go_call Z8 p _ HP.o as e w2 ⟨rfl,rfl⟩))
   go_ret;exact⟨rfl,HT.o,jt.refl _ _⟩
 ·have HX:=κ hx;refine jB (t':=t) (v:=1) (by unfold vL;rw[Ϗ (λh=>hx h.1)]) ?_;clear hx q
  go_enter func62,ntmps62
  go_wp2_with (go_at_call 97;(go_call wl x _ HX.o as e w2 ⟨rfl,rfl⟩))
  go_ret;exact⟨rfl,HT.o,jt.refl _ _⟩
def Zr {b:Nat} (h:jq w T a b c t) (x:Int):
  Calls prog 179 #[γ T,ι x] w λe w'=>e= .returned (ι (zM t x).2)/\jq w' T a b c (zM t x).1/\jt (λz=>z=c) w w':=by
 have c2:=β2 h.blk;have q:=h.lookU x;have HT:=κ h;by_cases hx:0<=x/\x<6
 ·have HX:=κ hx;obtain⟨y,hy⟩:=ν ((qh t.u x).getD sb0);cases hs:(qh t.u x).isSome with
  | false=>
   refine jB (t':=t) (v:=5) (by unfold zM;rw[ϓ hx,hs];rfl) ?_;rw[hs,hy] at q;clear hx hs h hy
   go_enter func179,ntmps179
   go_wp2_with (go_at_call 97;(go_call xe x _ HX.o as e w2 ⟨rfl,rfl⟩))
   go_ret;exact⟨rfl,HT.o.more X6,jt.of_more X6⟩
  | true=>
   cases hb:y.2.1 with
   | false=>
    refine jB (t':=t) (v:=5) (by unfold zM;rw[ϓ hx,hy,hb];simp) ?_;rw[hs,hy,hb] at q;clear hx hs h hy hb
    go_enter func179,ntmps179
    go_wp2_with (go_at_call 97;(go_call xe x _ HX.o as e w2 ⟨rfl,rfl⟩))
    go_ret;exact⟨rfl,HT.o.more X6,jt.of_more X6⟩
   | true=>
    refine jB (t':={t with u:=qx t.u x (y.1,ύ,0)}) (v:=0) (by unfold zM;rw[ϓ hx,hy,hb,hs];rfl) ?_;rw[hs,hy,hb] at q;clear hx hs h hy hb;have L0: ∀z:qt (w.alloc (.cells #[ω y.1,ό,ι y.2.2] 193)),z.w'.cell? ⟨T,2,ϋ⟩=ϊ (.map (ϊ c)):=λz=>qa (qq z.h (qs HT.o.blk _)) 2 rfl
    have L1: ∀z:qt (w.alloc (.cells #[ω y.1,ό,ι y.2.2] 193)),z.w'.cell? ⟨w.heap.size,0,ϋ⟩=ϊ (ω y.1):=λz=>z.new 0 rfl
    obtain⟨w9,hr,hm,ha,_⟩:=((HT.o.mu.more (ql.alloc w (.cells #[ω y.1,ό,ι y.2.2] 193))).more (ql.drewN _ 1)).update kE underlying184 x (y.1,ύ,0);unfold vS at hr;simp only at hr;have HM:=κ hm;have HA:=κ ha;clear hm ha
    go_enter func179,ntmps179
    go_wp2_with (go_at_call 97;(go_call xe x _ HX.o as e w2 ⟨rfl,rfl⟩))
    refine Qn (w.alloc (.cells #[ω y.1,ό,ι y.2.2] 193)) 8 9 [8] ?_
    refine Qq8 ?_
    (refine Qe ?_;intro K hK)
    refine hK _ _ ?_;clear hK K;refine qA ?_;go_wp2;go_ret;exact⟨rfl,((HT.o.more (ql.alloc w _)).more (ql.drewN _ 1)).putU HA.o HM.o,(jt.of_more (X6.dr 1)).trans HA.o⟩
 ·have HX:=κ hx;refine jB (t':=t) (v:=1) (by unfold zM;rw[Ϗ hx]) ?_;clear hx q
  go_enter func179,ntmps179
  go_wp2_with (go_at_call 97;(go_call wl x _ HX.o as e w2 ⟨rfl,rfl⟩))
  go_ret;exact⟨rfl,HT.o,jt.refl _ _⟩
abbrev qQ:=Int×Int×List Int×Unit
variable {acc:List qQ}
def yH:qL qQ:=zf 1 (yW .u8) (zf 1 (yW .u8) (zf 1 (RSl 1 (yW .u8)) Gp))
def xu:qQ:=(0,0,[],())
structure xk (c:qQ):Prop where
 n:0<=c.1/\c.1<=255
 t:0<=c.2.1/\c.2.1<=255
 byt:Byt c.2.2.1
def DH {n:Int} (h:0<=n/\n<=255):(Lit.int .u8 n).wf=ό:=by
 simp[Lit.wf,IntKind.min,IntKind.max,IntKind.signed,IntKind.bits];omega
def IW (h:Byt l): ∀n∈l,(Lit.int .u8 n).wf=ό:=by
 intro n d;obtain⟨i,hi,rfl⟩:=B4.1 d;have:=h i;rw[ϒ,ϖ hi,ϰ] at this;exact DH this
def Co {cs:List Value} {c:qQ} (h:yH w cs c) (N:cs.length=3): ∃vb,cs=[υ c.1,υ c.2.1,vb]/\SlI .u8 w vb c.2.2.1/\xk c:=by
 match cs,N with
 | [k0,k1,k2],_=>
  obtain⟨⟨d,I⟩,⟨G,J⟩,⟨vb,H,s2⟩,_⟩:=h;simp at d G H;subst d G H;exact⟨k2,rfl,s2.ints.1,⟨bounds_u8 I,bounds_u8 J,Byt.of_wf s2.ints.2⟩⟩
def VU {c:qQ} (s:SlI .u8 w vb c.2.2.1) (h:xk c):yH w [υ c.1,υ c.2.1,vb] c:=
 ⟨⟨rfl,DH h.n⟩,⟨rfl,DH h.t⟩,⟨vb,rfl,SlP.of_ints s (IW h.byt)⟩,rfl⟩
structure JE (w:World) (b off i:Nat) (c:qQ) (vb:Value):Prop where
 c0:w.cell? ⟨b,off+i* 3,ϋ⟩=ϊ (.int .u8 c.1)
 c1:w.cell? ⟨b,off+i* 3+1,ϋ⟩=ϊ (.int .u8 c.2.1)
 c2:w.cell? ⟨b,off+i* 3+2,ϋ⟩=ϊ vb
 sl:SlI .u8 w vb c.2.2.1
 ok:xk c
def JE.more {b off:Nat} {t:qQ} (h:JE w b off i t vb) (m:ql w w') (d:b<w.heap.size):JE w' b off i t vb:=by
 obtain⟨G,H,I,J,N⟩:=h;exact⟨by rw[m.cells b _ d];exact G,by rw[m.cells b _ d];exact H,by rw[m.cells b _ d];exact I,J.keep m,N⟩
def Ae {l:List qQ} (h:SlP 3 yH w v l): ∃d cap,v= δ d l.length cap/\(l.length:Int)<=9223372036854775807/\ ∀i,i<l.length-> ∃b off vb,d=ϊ ⟨b,off,ϋ⟩/\b<w.heap.size/\JE w b off i (l.getD i xu) vb:=by
 obtain⟨d,cap,N,O,U,_⟩:=h;refine⟨d,cap,N,O,λi hi=> ?_⟩;obtain⟨b,off,cs,e,Y,ab,G,ac⟩:=U i hi;have e0:=G 0 τ;have H:=G 1 τ;have I:=G 2 τ;have J:l.getD i xu=l[i]:=by simp[hi]
 rw[J];obtain⟨vb,rfl,ad,aa⟩:=Co ac ab;simp at e0 H I;exact⟨b,off,vb,e,Y,e0,H,I,ad,aa⟩
def jx (c:qQ):Bool:=decide (c.1<=31/\c.2.2.1.length%4=0/\c.2.2.1.length<=196)
def xR (c:qQ) (N:SlI .u8 w vb c.2.2.1) (U:c.2.2.1.length<=1000000):
  Calls prog 142 #[θ #[υ c.1,υ c.2.1,vb]] w λe w'=>e= .returned (μ (jx c))/\ql w w':=by
 obtain⟨k,n,b,⟨⟩⟩:=c;simp only at *;obtain⟨O,J,rfl,_⟩:=N;have H:=ql.alloc w (.cells #[υ k,υ n,δ O b.length J] 145);by_cases h1:k<=31
 ·by_cases h2:b.length%4=0
  ·by_cases h3:b.length<=196
   ·have d:jx (k,n,b,())=ό:=by unfold jx;simp[h1,h2,h3]
    have G:=κ d;clear d;have I:((b.length:Int)).tmod 4=0:=by rw[D6 τ];omega
    go_enter func142,ntmps142
    go_wp2
    all_goals (go_ret;exact⟨by rw[G.o];first | rfl | exact qZ (ϻ τ) | exact qZ (ϯ τ),H⟩)
   ·have d:jx (k,n,b,())=ύ:=by unfold jx;simp[h3]
    have G:=κ d;clear d;have I:((b.length:Int)).tmod 4=0:=by rw[D6 τ];omega
    go_enter func142,ntmps142
    go_wp2
    all_goals (go_ret;exact⟨by rw[G.o];first | rfl | exact qZ (ϻ τ) | exact qZ (ϯ τ),H⟩)
  ·have d:jx (k,n,b,())=ύ:=by unfold jx;simp[h2]
   have G:=κ d;clear d;have I: ¬((b.length:Int)).tmod 4=0:=by rw[D6 τ];omega
   go_enter func142,ntmps142
   go_wp2
   all_goals (go_ret;exact⟨by rw[G.o];first | rfl | exact qZ (ϻ τ) | exact qZ (ϯ τ),H⟩)
 ·have d:jx (k,n,b,())=ύ:=by unfold jx;simp[h1]
  have G:=κ d;clear d
  go_enter func142,ntmps142
  go_wp2
  all_goals (go_ret;exact⟨by rw[G.o];first | rfl | exact qZ (ϻ τ) | exact qZ (ϯ τ),H⟩)
def zS {t:Nat} (d:B=w.heap.size): ∀j u,cs.toList[j]? =ϊ u->(w.alloc (.cells cs t)).cell? ⟨B,j,ϋ⟩=ϊ u:=by
 intro j u h;subst d;exact qa (qj w _) j (by simpa using h)
def kv (l:List α) (j:Nat) (d:α) (h:j<l.length):l.take (j+1)=l.take j++[l.getD j d]:=by
 rw[B9,ϖ h];simp[h]
def chB (c:qQ):List Int:=qy (128+c.1) 1++(qy c.2.1 1++(qy ((c.2.2.1.length:Int)/4) 2++c.2.2.1))
def flC (l:List qQ):List Int:=l.flatMap chB
def szC (l:List qQ):Nat:=(l.map λc=>4+c.2.2.1.length).sum
def YJ (c:qQ):(chB c).length=4+c.2.2.1.length:=by
 unfold chB;simp[qK];omega
def YH (l:List qQ):(flC l).length=szC l:=by
 induction l with
 | nil=>rfl
 | cons c l ih=>
  have e:flC (c::l)=chB c++flC l:=rfl;have d:szC (c::l)=4+c.2.2.1.length+szC l:=by simp[szC]
  rw[e,d,ώ,YJ,ih]
def Ck (l:List qQ) (j:Nat) (h:j<l.length):flC (l.take (j+1))=flC (l.take j)++chB (l.getD j xu):=by
 unfold flC;rw[kv l j xu h,M9];simp
def JZ (l:List qQ) (j:Nat) (h:j<l.length):szC (l.take (j+1))=szC (l.take j)+(4+(l.getD j xu).2.2.1.length):=by
 unfold szC;rw[kv l j xu h,ϩ,List.sum_append];simp
def DX (l:List qQ) (j:Nat):szC (l.take j)<=szC l:=by
 conv=>rhs;rw[<-A7 j l]
 unfold szC;rw[ϩ,List.sum_append];omega
def vW (l:List qQ):List Int×Int:=if l.all jx=ύ then ([],1) else if 200<szC l then ([],4) else (flC l,0)
def zO (c:qQ):jx c=ό↔c.1<=31/\c.2.2.1.length%4=0/\c.2.2.1.length<=196:=by unfold jx;simp
def PA {l:List qQ} (hi:i<l.length) (h:jx (l.getD i xu)=ύ):vW l=([],1):=by
 unfold vW;rw[ϓ];rw[List.all_eq_false];exact⟨l.getD i xu,by simp[hi],by rw[h];simp⟩
def PB {l:List qQ} (h: ∀i,i<l.length->jx (l.getD i xu)=ό):l.all jx=ό:=by
 rw[I3];intro c d;obtain⟨i,hi,rfl⟩:=B4.1 d;have:=h i hi
 simpa [hi] using this
def Dy (v:Value) (l:List qQ) (w:World) (sl:SlP 3 yH w v l) (bm:l.length<=100000) (ac: ∀i,i<l.length->(l.getD i xu).2.2.1.length<=1000000):
  Calls prog 117 #[v] w λe w'=> ∃vx,e= .returned (.tuple #[vx,ι (vW l).2])/\SlI .u8 w' vx (vW l).1/\ql w w'/\ ∀b,vx.ownBlock=ϊ b->w.heap.size<=b:=by
 obtain⟨bt,cap,rfl,bn,U⟩:=Ae sl;clear sl
 go_enter func117,ntmps117
 go_wp2
 go_loopw [4,12] (λs i wr=> ∃j:Nat,j<=l.length/\i= ι j/\s= ι (szC (l.take j):Nat)/\szC (l.take j)<=200* j/\(∀i,i<j->jx (l.getD i xu)=ό)/\ql w wr) (λ_ i _=>l.length-(intOf i).toNat)
 case atStart=>exact⟨0,τ,rfl,rfl,by simp[szC],λi hi=>by omega,ql.refl _⟩
 case round=>
  obtain⟨j,G,rfl,rfl,aK,O,d⟩:=hrel;by_cases hlt:j<l.length
  ·obtain⟨b,off,vb,rfl,H,N⟩:=U j hlt;have bs:=κ N;obtain⟨ar,c1,c2,Y,aD⟩:=N.more d H;have aX:(j:Int)<(l.length:Int):=by omega
   have aF:=κ (Y.keep (ql.alloc wr (.cells #[υ (l.getD j xu).1,υ (l.getD j xu).2.1,vb] 145)));obtain⟨aO,au,rfl,_⟩:=Y;have aa:=κ (JZ l j hlt);have av:=ac j hlt;have J:=κ (λh=>PA (l:=l) hlt h);have ae:=κ O
   have aR:Hid (∀b,jx (l.getD j xu)=b->b=ό->(l.getD j xu).2.2.1.length<=196/\ ∀i,i<j+1->jx (l.getD i xu)=ό):=κ (λb e h=>by
    subst e;refine⟨((zO _).1 h).2.2,λi hi=> ?_⟩;by_cases e:i<j
    ·exact ae.o i e
    ·obtain rfl:i=j:=by omega
     exact h)
   clear U N O ac;generalize aW:l.getD j xu=c at *;clear aW;generalize szC (l.take j)=z at *;cases I:jx c with
   | true=>
    obtain⟨bi,aC⟩:=aR.o ό I rfl;have aQ:=κ aC;clear aC
    go_wp2_with (go_at_call 142;refine(xR c aF.o av).mono ?_;rintro e w6 ⟨rfl,ad⟩;rw[I];have ah:=(d.al _).trans ad;have bu:=β2 (qq ad (qj wr _)))
    go_roundw
    case rel=>exact⟨j+1,τ,by go_num,by rw[aa.o];go_num,by rw[aa.o];omega,aQ.o,ah⟩
    case measure=>simp[intOf];omega
   | false=>
    have G:=J.o I
    go_wp2_with (go_at_call 142;refine(xR c aF.o av).mono ?_;rintro e w6 ⟨rfl,ad⟩;rw[I];have ah:=(d.al _).trans ad)
    refine bodyPost_ret (v:= .tuple #[δ ϋ 0 0,ι 1]) (by simp[results,results117,go_sem]) rfl ?_;exact⟨_,by rw[G],by rw[G];exact SlI.nil _ _,ah,λb H=>by cases H⟩
  ·obtain rfl:j=l.length:=by omega
   rw[Ϩ] at *;have ay:=PB O;by_cases h200:200<szC l
   ·have G:vW l=([],4):=by unfold vW;rw[Ϗ (by rw[ay];simp),ϓ h200]
    have J:=κ G;have aS:(200:Int)<(szC l:Int):=by omega
    clear G U ac O;go_wp2;refine bodyPost_ret (v:= .tuple #[δ ϋ 0 0,ι 4]) (by simp[results,results117,go_sem]) rfl ?_;exact⟨_,by rw[J.o],by rw[J.o];exact SlI.nil _ _,d,λb H=>by cases H⟩
   ·have G:vW l=(flC l,0):=by unfold vW;rw[Ϗ (by rw[ay];simp),Ϗ h200]
    have J:=κ G;have aS: ¬(200:Int)<(szC l:Int):=by omega
    have ae:=κ O;clear G ac O;go_wp2;have aU:=wR wr;have aT:=d.al (.cells #[δ ϋ 0 0] 242);have aV:=d.size;generalize bj:wr.heap.size=W at *
    go_loopw [30] (λi wr=> ∃j:Nat,j<=l.length/\i= ι j/\(∃v,j5 wr W v (flC (l.take j)))/\ql w wr) (λi _=>l.length-(intOf i).toNat)
    case atStart=>exact⟨0,τ,rfl,⟨_,aU⟩,aT⟩
    case round=>
     obtain⟨j,G,rfl,⟨v,I⟩,d⟩:=hrel;by_cases hlt:j<l.length
     ·obtain⟨b,off,vb,rfl,H,N⟩:=U j hlt;obtain⟨ar,c1,c2,Y,aD⟩:=N.more d H;have aX:(j:Int)<(l.length:Int):=by omega
      have ax:=Ck l j hlt;have aK:(flC (l.take j)).length<=200:=by rw[YH];have:=DX l j;omega
      have aE:=(zO _).1 (ae.o j hlt);have an:=κ ax;have aa:=κ Y;have ao:=κ N.sl;obtain⟨aO,au,rfl,_⟩:=Y;clear U N ax;generalize l.getD j xu=c at *;obtain⟨k,n,q,⟨⟩⟩:=c;simp only at ar c1 c2 aE;generalize flC (l.take j)=acc at *;obtain⟨⟨aY,bl⟩,⟨aZ,ba⟩,bo⟩:=aD;obtain⟨bp,bq,br⟩:=aE;change 0<=k at aY;change 0<=n at aZ;change n<=255 at ba;change Hid (SlI .u8 wr _ q) at aa;change Hid (SlI .u8 w _ q) at ao;change Hid (_=acc++chB (k,n,q,())) at an;have az:0<=128+k/\128+k<=255:=by omega
      have aA:0<=n/\n<=255:=by omega
      have aB:0<=(q.length:Int)/4/\(q.length:Int)/4<=65535:=by omega
      have aL:(acc++qy (128+k) 1).length<=1000000:=by rw[ώ,qK _ _ ζ];omega
      have aM:(acc++qy (128+k) 1++qy n 1).length<=1000000:=by rw[ώ,ώ,qK _ _ ζ,qK _ _ ζ];omega
      have aN:(acc++qy (128+k) 1++qy n 1++qy ((q.length:Int)/4) 2).length+q.length<=10000000:=by rw[ώ,ώ,ώ,qK _ _ ζ,qK _ _ ζ,qK _ _ ζ];omega
      have bk:((q.length:Int)).tdiv 4=(q.length:Int)/4:=Q1 τ;have ag:=κ (P4 aL (P4 aM aN));have af:=κ (P4 az (P4 aA aB));clear aL aM aN az aA aB;have ap:=κ (WrK.new (.cells #[υ k,υ n,δ aO q.length au] 145) I d aV);have aw:acc++qy (128+k) 1++qy n 1++qy ((q.length:Int)/4) 2++q=acc++chB (k,n,q,()):=by unfold chB;simp only[ϭ]
      have aP:=κ aw;clear aw
      go_wp2_with first | (go_at_call 111;((with_reducible refine(wk ap.o.wr (128+k) af.o.1 τ).mono ?_);rintro e w6 ⟨rfl,aG⟩;obtain⟨am,ai⟩:=ap.o.wrote aG;have bf:=β1 ai.keep;clear aG)) | (go_at_call 111;((with_reducible refine(wk ai.wr n af.o.2.1 ag.o.1).mono ?_);rintro e w7 ⟨rfl,aH⟩;obtain⟨bv,aj⟩:=ai.wrote aH;have bg:=β2 aj.keep;clear aH)) | (go_at_call 112;(go_call kU aj.wr ((q.length:Int)/4) af.o.2.2 ag.o.2.1 as e w8 ⟨rfl,aI⟩;obtain⟨bw,ab⟩:=aj.wrote aI;have bh:=β2 ab.keep;have be:=ao.o.keep ab.more;clear aI)) | (go_at_call 114;(go_call uU ab.wr _ _ be ag.o.2.2 as e w9 ⟨rfl,aJ⟩;obtain⟨v9,aq⟩:=ab.wrote aJ;clear aJ))
      go_roundw
      case rel=>exact⟨j+1,τ,by go_num,⟨v9,by rw[an.o,<-aP.o];exact aq.wr⟩,aq.more⟩
      case measure=>simp[intOf];omega
     ·obtain rfl:j=l.length:=by omega
      rw[Ϩ] at I;have aK:(flC l).length<=200:=by rw[YH];omega
      clear U
      go_wp2_with (go_at_call 115;refine(wZ I τ).mono ?_;rintro e w6 ⟨am,rfl,ak,bb⟩;have bd:=κ (SlI.of_owns ak τ);have bc:=κ (λ(b:Nat) (H:am.ownBlock=ϊ b)=>ϙ d.size (jG ak H));clear ak)
      refine bodyPost_ret (v:= .tuple #[am,ι 0]) (by simp[results,results117,go_sem]) rfl ?_;exact⟨_,by rw[J.o],by rw[J.o];exact bd.o,d.trans bb,bc.o⟩
def xg (b:List Int):List Int×Bool:=
 if b=[] then ([],ύ) else
  let n:=b.getD (b.length-1) 0
  if n=0∨ ¬n%4=0∨(b.length:Int)<n then ([],ύ) else (b.take (b.length-n.toNat),ό)
def Dn (Y:SlI .u8 w v b) (U:Byt b):
  Calls prog 313 #[v] w λe w'=>(∃v',e= .returned (.tuple #[v',μ (xg b).2])/\SlI .u8 w v' (xg b).1/\ ∀g,v'.ownBlock=ϊ g->v.ownBlock=ϊ g)/\w'=w:=by
 have H:=κ Y;obtain⟨aq,cap,rfl,ad,J,ae,af,N⟩:=Y;by_cases hn:b=[]
 ·subst hn;have G:xg []=([],ύ):=rfl;have d:=κ G;clear G H N
  go_enter func313,ntmps313
  go_wp2;refine bodyPost_ret (v:= .tuple #[δ ϋ 0 0,ύ]) (by simp[results,results313,go_sem]) rfl ?_;exact⟨⟨_,rfl,SlI.nil _ _,λg h=>by cases h⟩,rfl⟩
 ·have ai:0<b.length:=B3.2 hn;obtain⟨I,off,rfl,aj,ag⟩:=J (b.length-1) τ;have aa:=U (b.length-1);have ah:((b.length:Int)-1)=((b.length-1:Nat):Int):=by omega
  have ap:((b.length:Int)-1).toNat=b.length-1:=by omega
  have O: ∀n,b.getD (b.length-1) 0=n->xg b=if n=0∨ ¬n%4=0∨(b.length:Int)<n then ([],ύ) else (b.take (b.length-n.toNat),ό):=λn e=>by
   unfold xg;rw[Ϗ hn];simp only[e]
  have d:=κ (O _ rfl);clear O J U N hn;generalize b.getD (b.length-1) 0=n at *;obtain⟨ab,ak⟩:=aa;have ao:n.tmod 4=n%4:=D6 ab;have ac:n=0∨(¬n=0/\ ¬n%4=0)∨(¬n=0/\n%4=0/\(b.length:Int)<n)∨(¬n=0/\n%4=0/\ ¬(b.length:Int)<n):=by omega
  rcases ac with h | ⟨h,h'⟩ | ⟨h,h',h''⟩ | ⟨h,h',h''⟩
  ·have G:xg b=([],ύ):=by rw[d.o,ϓ (ϑ h)]
   clear d;have d:=κ G;clear G;subst h
   go_enter func313,ntmps313
   go_wp2;refine bodyPost_ret (v:= .tuple #[δ ϋ 0 0,ύ]) (by simp[results,results313,go_sem]) rfl ?_;exact⟨⟨δ ϋ 0 0,by rw[d.o],by rw[d.o];exact SlI.nil _ _,λg h=>by cases h⟩,rfl⟩
  ·have G:xg b=([],ύ):=by rw[d.o,ϓ (ϕ (ϑ h'))]
   clear d;have d:=κ G;clear G
   go_enter func313,ntmps313
   go_wp2;refine bodyPost_ret (v:= .tuple #[δ ϋ 0 0,ύ]) (by simp[results,results313,go_sem]) rfl ?_;exact⟨⟨δ ϋ 0 0,by rw[d.o],by rw[d.o];exact SlI.nil _ _,λg h=>by cases h⟩,rfl⟩
  ·have G:xg b=([],ύ):=by rw[d.o,ϓ (ϕ (ϕ h''))]
   clear d;have d:=κ G;clear G
   go_enter func313,ntmps313
   go_wp2;refine bodyPost_ret (v:= .tuple #[δ ϋ 0 0,ύ]) (by simp[results,results313,go_sem]) rfl ?_;exact⟨⟨δ ϋ 0 0,by rw[d.o],by rw[d.o];exact SlI.nil _ _,λg h=>by cases h⟩,rfl⟩
  ·have G:xg b=(b.take (b.length-n.toNat),ό):=by rw[d.o,Ϗ τ]
   clear d;have d:=κ G;clear G;obtain⟨m,rfl⟩: ∃m:Nat,n=m:=⟨n.toNat,τ⟩;have al:(0:Int)<=(b.length:Int)-(m:Int):=by omega
   have am:(b.length:Int)-(m:Int)<=(cap:Int):=by omega
   have an:((b.length:Int)-(m:Int)).toNat=b.length-m:=by omega
   go_enter func313,ntmps313
   go_wp2;refine bodyPost_ret (v:= .tuple #[δ (ϊ ⟨I,off,ϋ⟩) (b.length-m) cap,ό]) (by simp[results,results313,go_sem]) rfl ?_;exact⟨⟨δ (ϊ ⟨I,off,ϋ⟩) (b.length-m) cap,by rw[d.o],by rw[d.o];exact H.o.take _ τ,λg h=>h⟩,rfl⟩
def Aj: ∀m:Fin 256,bits .and .u8 (m.val:Int) 31=(m.val:Int)%32/\bits .and .u8 (m.val:Int) 32=if (m.val:Int)%64<32 then 0 else 32:=Ϧ ξ
def Mr {n:Int} (h:0<=n/\n<=255):bits .and .u8 n 31=n%32:=by
 obtain⟨m,rfl⟩:=A4 h.1;exact(Aj ⟨m,τ⟩).1
def Mq {n:Int} (h:0<=n/\n<=255):(bits .and .u8 n 32 != 0)= !decide (n%64<32):=by
 obtain⟨m,rfl⟩:=A4 h.1;rw[(Aj ⟨m,τ⟩).2];simp only;by_cases e:(m:Int)%64<32
 ·rw[ϓ e];simp[e]
 ·rw[Ϗ e];simp;omega
def ze (s:RdS):(Int×Int×Int)×RdS:=((num (tkB s.1 1),num (tkB (tkS s 1).1 1),num (tkB (tkS (tkS s 1) 1).1 2)),tkS (tkS (tkS s 1) 1) 2)
def ua (f:Int) (s:RdS):RdS:=if f<128∨191<f then wrS s 2 else s
def vG (f t n:Int) (s:RdS):qQ×RdS:=
 if f%64<32 then ((f%32,t,tkB s.1 (4* n),()),tkS s (4* n))
 else ((f%32,t,(xg (tkB s.1 (4* n))).1,()),if (xg (tkB s.1 (4* n))).2=ύ∨ ¬(tkS s (4* n)).1=[] then wrS (tkS s (4* n)) 2 else tkS s (4* n))
def qP (s:RdS):qQ×RdS:=
 vG (ze s).1.1 (ze s).1.2.1 (ze s).1.2.2 (ua (ze s).1.1 (ze s).2)
structure RdK (w0 w:World) (R:Nat) (l:List Int) (e:Int) (B:Nat) (o:Obj) (C:Nat->Prop):Prop where
 rd:qu w R l e C
 away:jt (λb=>b=R) w0 w
 keep:w.heap[B]? =ϊ o
 ne: ¬B=R
def RdK.new (o:Obj) (h:qu w R l e C):RdK w (w.alloc o) R l e w.heap.size o C:=
 ⟨h.more (ql.alloc w o),jt.of_more (ql.alloc w o),qj w o,λe=>by obtain⟨v,d,_⟩:=h.blk;have:=qn d;omega⟩
def RdK.step {G:World} {l':List Int} {d:Int} (h:RdK G w R l e B o C) (r:qu w' R l' d C) (a:jt (λb=>b=R) w w'):RdK G w' R l' d B o C:=
 ⟨r,h.away.trans a,a.blk h.keep h.ne,h.ne⟩
def Uj (h:Byt b):Byt (xg b).1:=by
 unfold xg;split
 ·exact xh
 ·simp only;split
  ·exact xh
  ·exact h.take _
def Wf (h:qu w R s.1 s.2 C):
  Calls prog 305 #[γ R] w λe w'=>(∃vb,e= .returned (θ #[υ (qP s).1.1,υ (qP s).1.2.1,vb])/\SlI .u8 w' vb (qP s).1.2.2.1/\xk (qP s).1/\ ∀g,vb.ownBlock=ϊ g->w.heap.size<=g)/\qu w' R (qP s).2.1 (qP s).2.2 C/\jt (λb=>b=R) w w':=by
 have bS:R<w.heap.size:=by obtain⟨v,ai,_⟩:=h.blk;exact qn ai
 have ag:=RdK.new (.cells #[υ 0,υ 0,()] 145) h.old;have aS:=jL h.byt 1;have aY:=zh s.1 1 ζ;have ax:=zv _ 1 aS aY ζ;have aT:qP s=vG (ze s).1.1 (ze s).1.2.1 (ze s).1.2.2 (ua (ze s).1.1 (ze s).2):=rfl;have ae:=κ aT;clear aT;obtain⟨L,E⟩:=s;simp only at h ag;have aP:Byt (tkL L 1):=h.byt.drop _;have bC:Byt (tkL (tkL L 1) 1):=aP.drop _;have bc:=zv _ 1 (jL aP 1) (zh (tkL L 1) 1 ζ) ζ;have bd:=zv _ 2 (jL bC 2) (zh (tkL (tkL L 1) 1) 2 ζ) ζ;have aU:ze (L,E)=((num (tkB L 1),num (tkB (tkL L 1) 1),num (tkB (tkL (tkL L 1) 1) 2)),(tkL (tkL (tkL L 1) 1) 2,tkE (tkL (tkL L 1) 1) 2 (tkE (tkL L 1) 1 (tkE L 1 E)))):=rfl;rw[aU] at ae;simp only at ae ax;clear aU aS aY;generalize aZ:num (tkB L 1)=f at *;generalize ba:num (tkB (tkL L 1) 1)=t at *;generalize bb:num (tkB (tkL (tkL L 1) 1) 2)=n at *;generalize aR:tkL (tkL (tkL L 1) 1) 2=L3 at *;generalize aQ:tkE (tkL (tkL L 1) 1) 2 (tkE (tkL L 1) 1 (tkE L 1 E))=E3 at *;have aV:0<=f/\f<=255:=by have:=ax;simp at this;omega
 have bF:0<=t/\t<=255:=by have:=bc;simp at this;omega
 have bT:0<=n/\n<=65535:=by have:=bd;simp at this;omega
 have bR:=Mr aV;have bB:=Mq aV;clear ax bc bd
 have bG:Hid (∀O vb q (G:RdS),RdK w O R G.1 G.2 w.heap.size (.cells #[υ 0,υ 0,()] 145) (λg=>C g/\g<w.heap.size)->qP (L,E)=((f%32,t,q,()),G)->SlI .u8 O vb q->Byt q->(∀g,vb.ownBlock=ϊ g->w.heap.size+1<=g)->(∃vb',Ending.returned (θ #[υ (f%32),υ t,vb])= .returned (θ #[υ (qP (L,E)).1.1,υ (qP (L,E)).1.2.1,vb'])/\SlI .u8 (((O.setCell ⟨w.heap.size,0,ϋ⟩ (υ (f%32))).setCell ⟨w.heap.size,1,ϋ⟩ (υ t)).setCell ⟨w.heap.size,2,ϋ⟩ vb) vb' (qP (L,E)).1.2.2.1/\xk (qP (L,E)).1/\ ∀g,vb'.ownBlock=ϊ g->w.heap.size<=g)/\qu (((O.setCell ⟨w.heap.size,0,ϋ⟩ (υ (f%32))).setCell ⟨w.heap.size,1,ϋ⟩ (υ t)).setCell ⟨w.heap.size,2,ϋ⟩ vb) R (qP (L,E)).2.1 (qP (L,E)).2.2 C/\jt (λb=>b=R) w (((O.setCell ⟨w.heap.size,0,ϋ⟩ (υ (f%32))).setCell ⟨w.heap.size,1,ϋ⟩ (υ t)).setCell ⟨w.heap.size,2,ϋ⟩ vb)):=κ (by
  intro O vb q G X bA bJ ah aW;have U:jt (λb=>b=w.heap.size) O (((O.setCell ⟨w.heap.size,0,ϋ⟩ (υ (f%32))).setCell ⟨w.heap.size,1,ϋ⟩ (υ t)).setCell ⟨w.heap.size,2,ϋ⟩ vb):=(((jt.refl (λb=>b=w.heap.size) O).set (p:=⟨w.heap.size,0,ϋ⟩) rfl _).set (p:=⟨w.heap.size,1,ϋ⟩) rfl _).set (p:=⟨w.heap.size,2,ϋ⟩) rfl _;rw[bA];refine⟨⟨vb,rfl,bJ.off (λb aw e=>by have:=aW b aw;omega) U,⟨by simp only;omega,bF,ah⟩,λg h=>by have:=aW g h;omega⟩, ?_, ?_⟩
  ·exact(X.rd.off U (λe=>X.ne e.symm) (λg bD e=>by have:=bD.2;omega)).mono λg h=>h.1
  ·exact⟨U.os.trans X.away.os,U.tape.trans X.away.tape,U.output.trans X.away.output,ϙ X.away.size U.size,λk aX bE=>by rw[U.block k (ϗ aX X.away.size) τ];exact X.away.block k aX bE⟩)
 obtain⟨⟨d,J⟩,av⟩: ∃S4,ua f (L3,E3)=S4:=⟨_,rfl⟩;rw[av] at ae;have ak:=κ av;clear av
 go_enter func305,ntmps305
 go_upto_region 2 with (first | (go_at_call 155;((with_reducible refine(jT ag.rd).mono ?_);rintro e w6 ⟨rfl,bj,aI⟩;have am:=ag.step bj aI;rw[aZ])) | (go_at_call 155;((with_reducible refine(jT am.rd).mono ?_);rintro e w7 ⟨rfl,bk,aJ⟩;have an:=am.step bk aJ;rw[ba])) | (go_at_call 156;(go_call xn an.rd as e w8 ⟨rfl,bl,aK⟩;have ao:=an.step bl aK;rw[bb];rw[aR,aQ] at ao)))
 have af:=κ ao;clear ag am an ao bj bk bl aI aJ aK aZ ba bb aR aQ h;obtain⟨q,be⟩:=ν (decide (f<128∨191<f));have Y:=κ be;clear be
 go_cut [20] from 15 to 51 (λv H=>v= μ q/\w8=H)
 case first=>
  by_cases ai:f<128
  ·go_wp2;go_meet;exact⟨by rw[<-Y.o];simp[ai],rfl⟩
  ·by_cases h2:191<f
   ·go_wp2;go_meet;exact⟨by rw[<-Y.o];simp[h2],rfl⟩
   ·go_wp2;go_meet;exact⟨by rw[<-Y.o];simp[ai,h2],rfl⟩
 case rest=>
 obtain⟨rfl,rfl⟩:=hcut
 go_upto_if 20 with fail
 go_cut [] from 21 to 51 (λH=>RdK w H R d J w.heap.size (.cells #[υ 0,υ 0,()] 145) (λg=>C g/\g<w.heap.size))
 case first=>
  cases q
  ·have ad:Hid ((L3,E3)=(d,J)):=κ (by rw[<-ak.o];exact(Ϗ (D8 Y.o)).symm);go_wp2;go_meet;have x:=af.o;rw[show L3=d from Γ Prod.fst ad.o,show E3=J from Γ Prod.snd ad.o] at x;exact x
  ·have ad:Hid (wrS (L3,E3) 2=(d,J)):=κ (by rw[<-ak.o];exact(ϓ (Ϧ Y.o)).symm)
   go_wp2_with ((go_at_call 158;(go_call zo (s:=(L3,E3)) af.o.rd 2 as e w9 ⟨rfl,bm,a9⟩;have N:=κ (af.o.step bm a9);clear bm a9)))
   go_meet;have x:=N.o;rw[ad.o] at x;exact x
 case rest=>
 have N:=κ hcut;clear hcut af ak Y
 go_upto_region 5 with ((go_at_call 159;(go_call QI (4* n) N.o.rd as e w10 ⟨bK,rfl,ay,bh,aH⟩;have aa:=κ (N.o.step bh aH);have aB:=κ (SlI.of_owns ay (by have:=Vm d (4* n);have:=N.o.rd.small;omega));have aL:Hid (∀g,bK.ownBlock=ϊ g->w.heap.size+1<=g):=κ (λg h=>ϙ (ϗ (qn N.o.keep) (ϔ _)) (jG ay h));have aq:=κ (jL N.o.rd.byt (4* n));obtain⟨bU,bM,rfl,_⟩:=id aB.o;clear ay bh aH)))
 obtain⟨p,aA⟩:=ν ((!decide (f%64<32)));rw[aA] at bB;have aF:=κ aA;clear aA N;generalize aO:tkB d (4* n)=B at *;have aD:=κ aO;clear aO
 go_upto_if 30 with fail
 go_cut [6] from 31 to 51 (λv H=> ∃(o:Option Addr) (c:Nat) (q:List Int) (G:RdS),v= δ o q.length c/\SlI .u8 H (δ o q.length c) q/\Byt q/\(∀g,(δ o q.length c).ownBlock=ϊ g->w.heap.size+1<=g)/\RdK w H R G.1 G.2 w.heap.size (.cells #[υ 0,υ 0,()] 145) (λg=>C g/\g<w.heap.size)/\vG f t n (d,J)=((f%32,t,q,()),G))
 case first=>
  cases p
  ·go_wp2;go_meet;exact⟨_,_,_,(tkL d (4* n),tkE d (4* n) J),rfl,aB.o,aq.o,aL.o,aa.o,by unfold vG;rw[ϓ (by have:=aF.o;simpa using this),aD.o];rfl⟩
  ·have aE:Hid (vG f t n (d,J)=((f%32,t,(xg B).1,()),if (xg B).2=ύ∨ ¬tkL d (4* n)=[] then wrS (tkL d (4* n),tkE d (4* n) J) 2 else (tkL d (4* n),tkE d (4* n) J))):=κ (by unfold vG;rw[Ϗ (by have:=aF.o;simpa using this),aD.o];rfl);have bu:=κ (Uj (b:=B) aq.o);obtain⟨bg,az⟩:=ν ((xg B).2);obtain⟨ab,au⟩:=ν (tkL d (4* n));obtain⟨aj,ar⟩:=ν (tkE d (4* n) J);obtain⟨z,bf⟩:=ν (decide (bg=ύ∨ ¬ab=[]));have al:=κ bf;have aG:=κ (Dn aB.o aq.o);rw[az] at aG;rw[au,ar] at aa;rw[az,au,ar] at aE;clear az au ar bf
   go_upto_region 7 with (go_at_call 313;(go_call aG.o as e bp ⟨⟨bW,rfl,bn,aM⟩,rfl⟩;have bv:=κ bn;have aC:=κ (λg h=>aL.o g (aM g h));obtain⟨bV,bN,rfl,_⟩:=bn;clear aM))
   go_cut [42] from 36 to 51 (λv H=>v= μ z/\bp=H)
   case first=>
    cases bg
    ·go_wp2;go_meet;exact⟨by rw[<-al.o];rfl,rfl⟩
    ·go_wp2_with (go_at_call 160;(go_call zn aa.o.rd as e bL ⟨rfl,rfl⟩))
     go_meet;exact⟨by rw[<-al.o];cases ab<;>simp,rfl⟩
   case rest=>
   obtain⟨rfl,rfl⟩:=hcut
   go_upto_if 42 with fail
   go_cut [] from 43 to 51 (λH=> ∃G:RdS,RdK w H R G.1 G.2 w.heap.size (.cells #[υ 0,υ 0,()] 145) (λg=>C g/\g<w.heap.size)/\(if z then wrS (ab,aj) 2 else (ab,aj))=G/\jt (λb=>b=R) bp H)
   case first=>
    cases z
    ·go_wp2;go_meet;exact⟨_,aa.o,rfl,jt.refl _ _⟩
    ·go_wp2_with ((go_at_call 158;(go_call zo (s:=(ab,aj)) aa.o.rd 2 as e bL ⟨rfl,bi,ap⟩;have bw:=κ (aa.o.step bi ap);have bq:=κ ap;clear bi ap)))
     go_meet;exact⟨_,bw.o,rfl,bq.o⟩
   case rest=>
   obtain⟨G,I,ac,a9⟩:=hcut;have N:=κ I;have bs:=κ ac;have br:=κ a9;clear I ac a9;go_wp2;go_meet;exact⟨_,_,_,G,rfl,bv.o.off (λb aw e=>by have:=aC.o b aw;omega) br.o,bu.o,aC.o,N.o,by rw[aE.o,<-bs.o,<-al.o];simp⟩
 case rest=>
 obtain⟨bH,bz,bI,G,rfl,bo,ah,aN,I,ac⟩:=hcut;have bx:=β0 I.keep;have c1:=β1 I.keep;have c2:=β2 I.keep;have bO:=yw I.keep 0;have bP:=yw I.keep 1;have bQ:=yw I.keep 2;have bt:=κ (bG.o _ _ _ _ I (ae.o.trans ac) bo ah aN);clear I ac bo ah aN;go_wp2
 (refine bodyPost_ret (v:= θ #[υ (f%32),υ t,δ bH bI.length bz]) ?rr1 rfl ?_;(case rr1=>(simp[results,results305,go_sem,bx,c1,c2])))
 exact bt.o
def vd:Nat->List qQ->RdS->List qQ×RdS
 | 0,acc,s=>(acc,s)
 | n+1,acc,s=>if (qP s).2.1=[] then (acc++[(qP s).1],(qP s).2) else vd n (acc++[(qP s).1]) (qP s).2
def jI (b:List Int):List qQ×Int:=
 if 200<b.length then ([],4) else if (vd (b.length+1) [] (b,0)).2.2=0 then ((vd (b.length+1) [] (b,0)).1,0) else ([],(vd (b.length+1) [] (b,0)).2.2)
def vH (s:RdS) (x:Int):(wrS s x).1.length<=s.1.length:=by unfold wrS;split<;>simp
def uN (s:RdS) (n:Int):(tkS s n).1.length<=s.1.length:=by
 show (tkL s.1 n).length<=_;unfold tkL;simp
def ZC (s:RdS):(qP s).2.1.length<=s.1.length-1:=by
 have d:(ze s).2.1.length<=s.1.length-1:=by
  show (tkS (tkS (tkS s 1) 1) 2).1.length<=_;have d:=uN (tkS (tkS s 1) 1) 2;have G:=uN (tkS s 1) 1;have H:(tkS s 1).1.length=s.1.length-1:=by
   show (tkL s.1 1).length=_;unfold tkL;simp
  omega
 have G:(ua (ze s).1.1 (ze s).2).1.length<=(ze s).2.1.length:=by
  unfold ua;split
  ·exact vH _ _
  ·exact ϔ _
 have H: ∀f t n s,(vG f t n s).2.1.length<=s.1.length:=by
  intro f t n s;have:=uN s (4* n);unfold vG;split
  ·exact this
  ·simp only;split
   ·exact ϙ (vH _ _) this
   ·exact this
 exact ϙ (H _ _ _ _) (ϙ G d)
structure yG (w0 w:World) (R B0:Nat) (C:Nat->Prop) (b:List Int) (v:Value) (acc:List qQ) (s:RdS):Prop where
 rd:qu w R s.1 s.2 C
 row:je 3 yH (λk=>k=R) w B0 145 v acc
 more:ql w0 w
 len:acc.length+s.1.length<=b.length
 ans: ∃n,s.1.length<n/\vd n acc s=vd (b.length+1) [] (b,0)
 hR:w0.heap.size<=R
 RB:R<B0
 BW:B0<=w.heap.size
 CB: ∀g,C g->g<B0
def yG.body {I w6 w8:World} {G:Nat} (h:yG I w R G C b v acc s)
  (ab:qu w6 R (qP s).2.1 (qP s).2.2 C) (J:jt (λb=>b=R) w w6) (ac:je 3 yH (λk=>k=R) w8 G 145 v' (acc++[(qP s).1])) (d:(w6.alloc o).grownBy w8 v.ownBlock):
  qu w8 R (qP s).2.1 (qP s).2.2 C/\ql I w8/\G<=w8.heap.size:=by
 have H: ∀g,v.ownBlock=ϊ g->G<=g:=λg e=>h.row.ge e
 have aa:ql I (w6.alloc o):=(Jv J h.more h.hR).al o;have N:jt (λk=>v.ownBlock=ϊ k) (w6.alloc o) w8:=⟨d.os,d.tape,d.output,d.size,λk U Y=>d.block k U (λe=>Y e.symm)⟩;refine⟨(ab.more (ql.alloc w6 o)).off N (λe=> ?_) (λg O e=> ?_),jt.to_more aa N (λk e=> ?_),ϙ h.BW (ϙ J.size (ϙ (ql.alloc w6 o).size d.size))⟩
 ·have:=H R e;have:=h.RB;omega
 ·have:=H g e;have:=h.CB g O;omega
 ·have:=H k e;have:=h.RB;have:=h.hR;omega
def yG.next {H w8:World} {d:Nat} (h:yG H w R d C b v acc s)
  (J:je 3 yH (λk=>k=R) w8 d 145 v' (acc++[(qP s).1])) (G:qu w8 R (qP s).2.1 (qP s).2.2 C/\ql H w8/\d<=w8.heap.size) (I: ¬(qP s).2.1=[]):
  yG H w8 R d C b v' (acc++[(qP s).1]) (qP s).2:=by
 have N:=ZC s;have O:=B3.2 I;refine⟨G.1,J,G.2.1, ?_, ?_,h.hR,h.RB,G.2.2,h.CB⟩
 ·have:=h.len;simp;omega
 ·obtain⟨n,U,e⟩:=h.ans;cases n with
  | zero=>omega
  | succ n=>
   refine⟨n,τ, ?_⟩;rw[<-e,vd,Ϗ I]
def yG.stop {I:World} {d:Nat} (h:yG I w R d C b v acc s) (G: ¬200<b.length) (H:(qP s).2.1=[]):
  jI b=if (qP s).2.2=0 then (acc++[(qP s).1],0) else ([],(qP s).2.2):=by
 obtain⟨n,J,e⟩:=h.ans;cases n with
 | zero=>omega
 | succ n=>
  rw[vd,ϓ H] at e;unfold jI;rw[Ϗ G,<-e]
def Dv (h:qu w R [] e C):
  Calls prog 162 #[γ R] w λd w'=>d= .returned (ι e)/\w'=w:=by
 refine(yT h).mono ?_;rintro d w' ⟨rfl,rfl⟩;refine⟨?_,rfl⟩;by_cases x:e=0
 ·rw[Ϗ (by simp[x]),Ϗ η,x]
 ·rw[ϓ x]
def QO:Value->Nat
 | .slice _ n _=>n
 | _=>0
def Kc {J:World} {G:Nat} (h:yG J w R G C b v acc s) (H: ∀g,vb.ownBlock=ϊ g->w.heap.size<=g) (k:Nat) (I:vb.ownBlock=ϊ k) (d:k=R∨v.ownBlock=ϊ k):False:=by
 have N:=H k I;rcases d with rfl | d
 ·have:=h.RB;have:=h.BW;omega
 ·have:=h.row.lt d;omega
def AT {G w6:World} {d:Nat} (h:yG G w R d C b v acc s) (a:jt (λb=>b=R) w w6) {k:Nat} (H:k=R):k<(w6.alloc o).heap.size:=by
 have:=h.RB;have:=h.BW;have:=a.size;have:=(ql.alloc w6 o).size;omega
def Ut {G w6:World} {d:Nat} (h:yG G w R d C b v acc s) (a:jt (λb=>b=R) w w6):d<=(w6.alloc o).heap.size:=by
 have:=h.BW;have:=a.size;have:=(ql.alloc w6 o).size;omega
def Z6 (v:Value) (b:List Int) (w:World) (sl:SlI .u8 w v b) (J:Byt b) (bl:b.length<=1000000):
  Calls prog 279 #[v] w λe w'=> ∃vl,e= .returned (.tuple #[vl,ι (jI b).2])/\SlP 3 yH w' vl (jI b).1/\ql w w':=by
 obtain⟨br,hi,bn,bo,bp⟩:=info_parts (P:=prog) (e:=145) (z:= θ #[υ 0,υ 0,()]) (size:=3) (bytes:=32) ξ;have bg:=κ sl;obtain⟨bt,bh,rfl,_⟩:=sl;by_cases h200:200<b.length
 ·have N:jI b=([],4):=by unfold jI;rw[ϓ h200]
  have aa:=κ N;have bk:(200:Int)<(b.length:Int):=by omega
  clear N
  go_enter func279,ntmps279
  go_wp2
  go_step3
  go_wp2;simp only[Exit.noGoto]
  (refine bodyPost_ret (v:= .tuple #[δ ϋ 0 0,ι 4]) ?rr1 rfl ?_;(case rr1=>(simp[results,results279,go_sem])))
  exact⟨_,by rw[aa.o],by rw[aa.o];exact SlP.nil _ _ _,ql.refl _⟩
 ·have bk: ¬(200:Int)<(b.length:Int):=by omega
  have bu:b.length<=200:=by omega
  go_enter func279,ntmps279
  go_wp2;refine wp_scope_jumps 0 (λa' w'=> ∃R G C am ad ag acc s aI aZ ba u8 bb aJ aK aL aM aN aO aP aQ aR aS aT aU aV aW aX aY,a'={tmps:= #[δ bt b.length bh,aI,(),ι 0,γ R,δ am ad ag,aZ,ba,u8,bb,aJ,aK,aL,aM,aN,aO,aP,aQ,aR,aS,aT,aU,aV,aW,aX,aY],defers:=[]}/\yG w w' R G C b (δ am ad ag) acc s/\ad=acc.length) (λa' _=>300-QO (a'.tmps.getD 5 undef)) rfl ?ja ?jb
  case' jb=>
   rintro a' w' ⟨R,G,C,am,ad,ag,acc,s,aI,aZ,ba,u8,bb,aJ,aK,aL,aM,aN,aO,aP,aQ,aR,aS,aT,aU,aV,aW,aX,aY,rfl,aA,aC⟩;have d:=κ aA;have bf:=κ aC;clear aA aC
  case' ja=>
   go_wp2_with (go_at_call 154;(go_call NV _ b w bg.o J bl as e w1 ⟨R,rfl,aw,ak,bm⟩))
   go_step3
   have d:Hid (yG w w1 R w1.heap.size (λg=>w.heap.size<=g/\g<w1.heap.size) b (δ ϋ 0 0) [] (b,0)):=κ ⟨ak,je.nil _ _ _ _ _ _,bm,η,⟨b.length+1,η,rfl⟩,aw,by obtain⟨v,bi,_⟩:=ak.blk;exact qn bi,ϔ _,λg h=>h.2⟩;obtain⟨s,N⟩: ∃s:RdS,s=(b,0):=⟨_,rfl⟩;rw[<-N] at d;obtain⟨acc,ax⟩: ∃acc:List qQ,acc=[]:=⟨_,rfl⟩;rw[<-ax] at d;obtain⟨G,au⟩: ∃G,G=w1.heap.size:=⟨_,rfl⟩;obtain⟨C,av⟩: ∃C:Nat->Prop,C=λg=>w.heap.size<=g/\g<w1.heap.size:=⟨_,rfl⟩
   rw[<-av,<-au] at d;clear N ax au av ak aw
  all_goals
   obtain⟨m,aB⟩: ∃m:Bool,decide ((0:Int)<((qP s).2.1.length:Int))=m:=⟨_,rfl⟩;have U:=κ aB
   go_upto_if 19 with (first | (go_at_call 305;(go_call Wf d.o.rd as e w6 ⟨⟨vb,rfl,aH,aF,ar⟩,aG,ap⟩;have aa:=κ aH;have be:=κ aF;have bd:=κ ar;have bc:=κ aG;have O:=κ ap;obtain⟨aE,aq,rfl,_⟩:=aH;clear ar aG aF ap)) | (at_builtin;refine jN _ rfl (.tmp 12) (.tmp 15) 247 rfl G 145 br (θ #[υ 0,υ 0,()]) 3 32 underlying247 hi bn bo bp rfl ζ _ acc rfl ((d.o.row.step O.o).on (ql.alloc w6 (.cells #[υ (qP s).1.1,υ (qP s).1.2.1,δ aE (qP s).1.2.2.1.length aq] 145))) w6.heap.size [υ (qP s).1.1,υ (qP s).1.2.1,δ aE (qP s).1.2.2.1.length aq] (qP s).1 rfl rfl (zS rfl) X8 (λw' a'=>VU ((aa.o.keep X6).off (λb J bj=>Kc d.o bd.o b J bj) a') be.o) (λb h=>AT d.o O.o h) ζ (by have:=d.o.len;omega) (Ut d.o O.o) ?_;intro v' w8 ac az J;have af:=κ ac;have H:=κ (d.o.body bc.o O.o ac az);obtain⟨an,al,ah,rfl,aD,bq⟩:=ac.shape;have ae:=κ aD;clear ac az J aD bq) | (go_at_call 160;(go_call zn H.o.1 as e w9 ⟨rfl,rfl⟩)))
   clear aB;cases m with
   | false=>
    have bs:((qP s).2.1.length:Int)=0:=by have:=D8 U.o;omega
    have aj:(qP s).2.1=[]:=Ϡ (by have:=D8 U.o;omega);have ab:=κ (d.o.stop h200 aj);have Y:=κ aj;clear aj;obtain⟨ai,ay⟩: ∃ai:Bool,((qP s).2.2 != 0)=ai:=⟨_,rfl⟩;have ao:=κ ay
    go_upto_if 23 with (go_at_call 162;(go_call Dv (R:=R) (e:=(qP s).2.2) (C:=C) (by (have:=H.o.1;rw[Y.o] at this;exact this)) as e w10 ⟨rfl,rfl⟩))
    clear ay;cases ai with
    | false=>
     have I:Hid ((qP s).2.2=0):=κ (by simpa using ao.o);go_wp2;simp only[Exit.jump]
     (refine bodyPost_ret (v:= .tuple #[δ an al ah,ι 0]) ?rr2 rfl ?_;(case rr2=>(simp[results,results279,go_sem])))
     exact⟨_,by rw[ab.o,ϓ I.o],by rw[ab.o,ϓ I.o];exact af.o.sl ζ,H.o.2.1⟩
    | true=>
     have I:Hid (¬(qP s).2.2=0):=κ (by simpa using ao.o);go_wp2;simp only[Exit.jump]
     (refine bodyPost_ret (v:= .tuple #[δ ϋ 0 0,ι (qP s).2.2]) ?rr3 rfl ?_;(case rr3=>(simp[results,results279,go_sem])))
     exact⟨_,by rw[ab.o,Ϗ I.o],by rw[ab.o,Ϗ I.o];exact SlP.nil _ _ _,H.o.2.1⟩
   | true=>
    have bs:(0:Int)<((qP s).2.1.length:Int):=Ϧ U.o;have Y:Hid (¬(qP s).2.1=[]):=κ (λe=>by have:=Ϧ U.o;rw[e] at this;simp at this);go_wp2
    go_step3
    first
     | exact⟨rfl,R,G,C,an,al,ah,_,_,_,_,_,_,_,_,_,_,_,_,_,_,_,_,_,_,_,_,_,_,_,rfl,d.o.next af.o H.o Y.o,ae.o⟩
     | exact⟨rfl,⟨R,G,C,an,al,ah,_,_,_,_,_,_,_,_,_,_,_,_,_,_,_,_,_,_,_,_,_,_,_,rfl,d.o.next af.o H.o Y.o,ae.o⟩,by have:=ae.o;have:=d.o.len;have:=bf.o;simp[QO] at *;omega⟩
def NT {n:Int} (h:tkE l n e=0):e=0/\n<=l.length:=by
 unfold tkE at h;split at h
 ·cases h
 ·rename_i x;refine⟨h, ?_⟩;rcases Int.lt_or_le (l.length:Int) n with y | y
  ·exact ϧ ⟨y,h⟩ x
  ·exact y
def Ym (s:RdS): ¬(wrS s 2).2=0:=by
 unfold wrS;split
 ·rename_i h;rcases h with h | h
  ·cases h
  ·exact h
 ·decide
def Gy (G:Byt b) (h:(xg b).2=ό):(xg b).1.length<b.length/\(b.length%4=0->(xg b).1.length%4=0):=by
 unfold xg at h ⊢;split at h
 ·cases h
 ·rename_i d;rw[Ϗ d];simp only at h ⊢;have H:=G (b.length-1);generalize b.getD (b.length-1) 0=n at *;split at h
  ·cases h
  ·rename_i x;rw[Ϗ x];have I:=B3.2 d;simp only[Ϥ];omega
def Xy (L:List Int) (E:Int) (O:Byt L) (h:(qP (L,E)).2.2=0):
  E=0/\(qP (L,E)).1.1<=31/\(qP (L,E)).1.2.2.1.length%4=0/\(chB (qP (L,E)).1).length+(qP (L,E)).2.1.length<=L.length/\((chB (qP (L,E)).1).length+(qP (L,E)).2.1.length=L.length->chB (qP (L,E)).1++(qP (L,E)).2.1=L):=by
 have J:Byt (tkL L 1):=O.drop _;have H:Byt (tkL (tkL L 1) 1):=J.drop _;have af:Byt (tkL (tkL (tkL L 1) 1) 2):=H.drop _;have al:ze (L,E)=((num (tkB L 1),num (tkB (tkL L 1) 1),num (tkB (tkL (tkL L 1) 1) 2)),(tkL (tkL (tkL L 1) 1) 2,tkE (tkL (tkL L 1) 1) 2 (tkE (tkL L 1) 1 (tkE L 1 E)))):=rfl;have ai:qP (L,E)=vG (ze (L,E)).1.1 (ze (L,E)).1.2.1 (ze (L,E)).1.2.2 (ua (ze (L,E)).1.1 (ze (L,E)).2):=rfl;rw[ai] at h ⊢;rw[al] at h ⊢;simp only at h ⊢;generalize ah:tkL (tkL (tkL L 1) 1) 2=L3 at *;generalize ag:tkE (tkL (tkL L 1) 1) 2 (tkE (tkL L 1) 1 (tkE L 1 E))=E3 at *;generalize aj:num (tkB L 1)=f at *;generalize ar:num (tkB (tkL L 1) 1)=t at *;generalize U:num (tkB (tkL (tkL L 1) 1) 2)=n at *;have ak:ua f (L3,E3)=(L3,E3)/\128<=f/\f<=191:=by
  by_cases x:f<128∨191<f
  ·exfalso;have e:ua f (L3,E3)=wrS (L3,E3) 2:=by unfold ua;rw[ϓ x]
   rw[e] at h;have Y:=Ym (L3,E3);generalize wrS (L3,E3) 2=s at *;unfold vG at h;split at h
   ·exact Y (NT h).1
   ·simp only at h;split at h
    ·exact Ym _ h
    ·exact Y (NT h).1
  ·exact⟨by unfold ua;rw[Ϗ x],τ,τ⟩
 obtain⟨ae,aG,aH⟩:=ak;rw[ae] at h ⊢;have av:tkE L3 (4* n) E3=0:=by
  unfold vG at h;split at h
  ·exact h
  ·simp only at h;split at h
   ·exact ϧ h (Ym _)
   ·exact h
 obtain⟨aa,ap⟩:=NT av;rw[<-ag] at aa;obtain⟨ay,ao⟩:=NT aa;obtain⟨ax,an⟩:=NT ay;obtain⟨aw,am⟩:=NT ax;subst aw;obtain⟨az,aC⟩:=uM ζ am;obtain⟨aA,aD⟩:=uM ζ an;obtain⟨ab,ac⟩:=uM ζ ao;have aq:=zv _ 2 (jL H 2) (by rw[ac];decide) ζ;rw[U] at aq;obtain⟨aB,aE⟩:=uM (l:=L3) (n:=4* n) τ ap;have w1:=gR (jL O 1) 1 aC ζ;have w2:=gR (jL J 1) 1 aD ζ;have ad:=gR (jL H 2) 2 ac ζ;rw[aj] at w1;rw[ar] at w2;rw[U] at ad;rw[ah] at ab;have N:L=qy f 1++(qy t 1++(qy n 2++(tkB L3 (4* n)++tkL L3 (4* n)))):=by
  conv=>lhs;rw[az,aA,ab,aB]
  rw[show qy f 1=tkB L 1 from w1,show qy t 1=tkB (tkL L 1) 1 from w2,show qy n 2=tkB (tkL (tkL L 1) 1) 2 from ad]
 have aI:L.length=4+(tkB L3 (4* n)).length+(tkL L3 (4* n)).length:=by
  conv=>lhs;rw[N]
  simp only[ώ,qK _ _ (show (0:Int)<=1/\(1:Int)<=8 by decide),qK _ _ (show (0:Int)<=2/\(2:Int)<=8 by decide)];simp;omega
 refine⟨rfl, ?_⟩;unfold vG at h ⊢;by_cases hp:f%64<32
 ·rw[ϓ hp];have G:tkS (L3,E3) (4* n)=(tkL L3 (4* n),tkE L3 (4* n) E3):=rfl;rw[G];simp only;have d:chB (f%32,t,tkB L3 (4* n),())=qy f 1++(qy t 1++(qy n 2++tkB L3 (4* n))):=by
   unfold chB;simp only;rw[show 128+f%32=f by omega,aE,show 4* n/4=n by omega]
  have I:=YJ (f%32,t,tkB L3 (4* n),());simp only at I;refine⟨τ,τ,τ,λ_=> ?_⟩;rw[d]
  conv=>rhs;rw[N]
  simp only[ϭ]
 ·rw[Ϗ hp] at h ⊢;simp only at h ⊢;have G:tkS (L3,E3) (4* n)=(tkL L3 (4* n),tkE L3 (4* n) E3):=rfl;rw[G] at h ⊢;by_cases d:(xg (tkB L3 (4* n))).2=ύ∨ ¬(tkL L3 (4* n),tkE L3 (4* n) E3).1=[]
  ·rw[ϓ d] at h;exact ϧ h (Ym _)
  ·rw[Ϗ d];have au:(xg (tkB L3 (4* n))).2=ό:=by
    cases x:(xg (tkB L3 (4* n))).2 with
    | true=>rfl
    | false=>exact ϧ (ϑ x) d
   obtain⟨aJ,aF⟩:=Gy (jL af (4* n)) au;have I:=YJ (f%32,t,(xg (tkB L3 (4* n))).1,());simp only at I ⊢;refine⟨τ,aF τ,τ,λx=>by omega⟩
def jK (h:Byt s.1) (n:Int):Byt (tkS s n).1:=h.drop _
def gu (h:Byt s.1) (x:Int):Byt (wrS s x).1:=by
 unfold wrS;split
 ·exact h
 ·exact xh
def GQ (h:Byt s.1):Byt (qP s).2.1:=by
 have G:Byt (ze s).2.1:=jK (jK (jK h 1) 1) 2;have d:Byt (ua (ze s).1.1 (ze s).2).1:=by
  unfold ua;split
  ·exact gu G 2
  ·exact G
 show Byt (vG _ _ _ _).2.1;unfold vG;split
 ·exact jK d _
 ·simp only;split
  ·exact gu (jK d _) 2
  ·exact jK d _
def uv (c:qQ) (l:List qQ):flC (c::l)=chB c++flC l:=rfl
def QX: ∀(n:Nat) (acc:List qQ) (L:List Int) (E:Int),Byt L->L.length<n->(vd n acc (L,E)).2.2=0->
  ∃k,(vd n acc (L,E)).1=acc++k/\E=0/\(∀c∈k,c.1<=31/\c.2.2.1.length%4=0)/\(flC k).length<=L.length/\((flC k).length=L.length->flC k=L)
 | 0,_,_,_,_,h,_=>by omega
 | n+1,acc,L,E,hb,hn,h=>by
  have U:=ZC (L,E);rw[vd] at h ⊢;by_cases e:(qP (L,E)).2.1=[]
  ·rw[ϓ e] at h ⊢;obtain⟨H,I,J,N,G⟩:=Xy L E hb h;rw[e] at N G;refine⟨[(qP (L,E)).1],rfl,H,λc d=> ?_, ?_, ?_⟩
   ·simp at d;subst d;exact⟨I,J⟩
   ·rw[uv];simpa [flC] using N
   ·rw[uv];simpa [flC] using G
  ·rw[Ϗ e] at h ⊢;have ad:=B3.2 e;have O:Byt (qP (L,E)).2.1:=GQ hb;obtain⟨k,Y,aa,ab,ae,ac⟩:=QX n (acc++[(qP (L,E)).1]) (qP (L,E)).2.1 (qP (L,E)).2.2 O (by simp only at U;omega) h;obtain⟨H,I,J,N,G⟩:=Xy L E hb aa;refine⟨(qP (L,E)).1::k,by rw[Y];simp,H,λc d=> ?_, ?_,λx=> ?_⟩
   ·simp at d;rcases d with rfl | d
    ·exact⟨I,J⟩
    ·exact ab c d
   ·rw[uv,ώ];omega
   ·rw[uv,ώ] at x;rw[uv,ac τ];exact G τ
def qgE: ∀(l:List Nat) (x:Nat),x∈l->x<=l.sum
 | y::l,x,h=>by
  simp at h;rcases h with rfl | h
  ·simp
  ·have:=qgE l x h;simp;omega
def QY {k:List qQ} (I:Byt b) (h:jI b=(k,0)):vW k=(flC k,0)/\(flC k).length<=b.length/\((flC k).length=b.length->flC k=b)/\szC k<=200:=by
 unfold jI at h;split at h
 ·cases h
 ·rename_i aa;split at h
  ·rename_i N;obtain⟨k',O,_,G,U,Y⟩:=QX (b.length+1) [] b 0 I τ N;rw[O] at h;obtain rfl:k'=k:=by injection h
   have J:szC k'<=200:=by rw[<-YH];omega
   refine⟨?_,U,Y,J⟩;have H:k'.all jx=ό:=by
    rw[I3];intro c d;have ab:4+c.2.2.1.length<=szC k':=by
     unfold szC;exact qgE _ _ (ο.2 ⟨c,d,rfl⟩)
    rw[zO];exact⟨(G c d).1,(G c d).2,τ⟩
   unfold vW;rw[Ϗ (by rw[H];simp),Ϗ τ]
  ·rename_i x;exact ϧ (Γ Prod.snd h) x
def Cc {l:List qQ} {x:List Int} (h:vW l=(x,0)):x=flC l/\(∀c∈l,jx c=ό)/\szC l<=200:=by
 unfold vW at h;split at h
 ·cases h
 ·rename_i d;split at h
  ·cases h
  ·rename_i H;have G:flC l=x:=by injection h
   refine⟨G.symm, ?_,τ⟩;have:l.all jx=ό:=by
    cases y:l.all jx with
    | true=>rfl
    | false=>exact ϧ y d
   exact I3.1 this
section
open Go.RowKit Go.ChangeShapes
structure Blk where
 src:Int
 part:Int
 miss:Int
 high:Int
 jit:Int
 last:Int
 dly:Int
def Blk.tup (b:Blk):Int×Int×Int×Int×Int×Int×Int:=(b.src,b.part,b.miss,b.high,b.jit,b.last,b.dly)
def Blk.tup_inj {a b:Blk} (h:a.tup=b.tup):a=b:=by
 obtain⟨⟩:=a;obtain⟨⟩:=b;simp only[Blk.tup,C8] at h;simp[h]
instance:DecidableEq Blk:=λ_ _=>decidable_of_iff _ ⟨Blk.tup_inj,λh=>by rw[h]⟩
structure Inf where
 sec:Int
 frac:Int
 stamp:Int
 pkts:Int
 octs:Int
def Inf.tup (b:Inf):Int×Int×Int×Int×Int:=(b.sec,b.frac,b.stamp,b.pkts,b.octs)
def Inf.tup_inj {a b:Inf} (h:a.tup=b.tup):a=b:=by
 obtain⟨⟩:=a;obtain⟨⟩:=b;simp only[Inf.tup,C8] at h;simp[h]
instance:DecidableEq Inf:=λ_ _=>decidable_of_iff _ ⟨Inf.tup_inj,λh=>by rw[h]⟩
structure Rep where
 snd:Bool
 src:Int
 inf:Inf
 bl:List Blk
def Rep.tup (b:Rep):Bool×Int×Inf×List Blk:=(b.snd,b.src,b.inf,b.bl)
def Rep.tup_inj {a b:Rep} (h:a.tup=b.tup):a=b:=by
 obtain⟨⟩:=a;obtain⟨⟩:=b;simp only[Rep.tup,C8] at h;simp[h]
instance:DecidableEq Rep:=λ_ _=>decidable_of_iff _ ⟨Rep.tup_inj,λh=>by rw[h]⟩
structure QS (b:Blk):Prop where
 src:U32 b.src
 part:0<=b.part/\b.part<=255
 miss: -2147483648<=b.miss/\b.miss<=2147483647
 high:U32 b.high
 jit:U32 b.jit
 last:U32 b.last
 dly:U32 b.dly
structure Wv (b:Inf):Prop where
 sec:U32 b.sec
 frac:U32 b.frac
 stamp:U32 b.stamp
 pkts:U32 b.pkts
 octs:U32 b.octs
structure Zx (r:Rep):Prop where
 src:U32 r.src
 inf:Wv r.inf
 bl: ∀b∈r.bl,QS b
def Blk.cells (b:Blk):List Value:=[.int .u32 b.src,.int .u8 b.part,.int .i32 b.miss,.int .u32 b.high,.int .u32 b.jit,.int .u32 b.last,.int .u32 b.dly]
def Yj:qL Blk:=λ_ cs b=>cs=b.cells/\QS b
def Ca:QQ Yj:=λ_ _ _ _ _ h=>h
def Ei {R:qL α} {L:List α} (h:SlP n R w v L) {p:α->Prop} (H: ∀cs y,R w cs y->p y): ∀b∈L,p b:=by
 obtain⟨_,_,_,_,d,_⟩:=h;intro b G;obtain⟨i,hi,rfl⟩:=B4.1 G;obtain⟨_,_,_,_,_,_,_,I⟩:=d i hi;exact H _ _ I
def Γm (x:Rep) (a:Option Addr) (b:Nat):Mm:=.o
instance (x:Rep) (a:Option Addr) (b:Nat):CoeDep Mm (Γm x a b) (List Value):=⟨[μ x.snd,ω x.src,ω x.inf.sec,ω x.inf.frac,ω x.inf.stamp,ω x.inf.pkts,ω x.inf.octs,δ a x.bl.length b]⟩
instance (x:Rep) (a:Option Addr) (b:Nat):CoeDep Mm (Γm x a b) (Array Value):=⟨((Γm x a b):List Value).toArray⟩
instance (x:Rep) (a:Option Addr) (b:Nat):CoeDep Mm (Γm x a b) Value:=⟨θ (Γm x a b)⟩
def Γn (s:Bool) (r:Int) (x:Inf) (a:Option Addr) (l:List Blk) (b:Nat):Mm:=.o
instance (s:Bool) (r:Int) (x:Inf) (a:Option Addr) (l:List Blk) (b:Nat):CoeDep Mm (Γn s r x a l b) (List Value):=⟨[μ s,ω r,ω x.sec,ω x.frac,ω x.stamp,ω x.pkts,ω x.octs,δ a l.length b]⟩
instance (s:Bool) (r:Int) (x:Inf) (a:Option Addr) (l:List Blk) (b:Nat):CoeDep Mm (Γn s r x a l b) (Array Value):=⟨((Γn s r x a l b):List Value).toArray⟩
instance (s:Bool) (r:Int) (x:Inf) (a:Option Addr) (l:List Blk) (b:Nat):CoeDep Mm (Γn s r x a l b) Value:=⟨θ (Γn s r x a l b)⟩
end
def Jj:Inf:=⟨0,0,0,0,0⟩
def Qh:Rep:=⟨ύ,0,Jj,[]⟩
def kD (b:Blk):Bool:=decide (-8388608<=b.miss/\b.miss<=8388607)
def vN (r:Rep):Bool:=(r.snd||decide (r.inf=Jj))&&r.bl.all kD&&decide (r.bl.length<=if r.snd then 7 else 8)
def JK (b:Blk):List Int:=qy b.src 4++(qy b.part 1++(qy (b.miss%4294967296) 3++(qy b.high 4++(qy b.jit 4++(qy b.last 4++qy b.dly 4)))))
def flR (l:List Blk):List Int:=l.flatMap JK
def Yf (i:Inf):List Int:=qy i.sec 4++(qy i.frac 4++(qy i.stamp 4++(qy i.pkts 4++qy i.octs 4)))
def Zu (r:Rep):List Int:=qy r.src 4++(if r.snd then Yf r.inf else [])
def Za (r:Rep):List Int:=Zu r++flR r.bl
def Qm (r:Rep):qQ×Int:=if vN r then (((r.bl.length:Int),(if r.snd then 200 else 201),Za r,()),0) else ((0,0,[],()),1)
def xP (s:RdS):Int:=num (tkB s.1 4)
def jA (s:RdS):Inf×RdS:=
 (⟨xP s,xP (tkS s 4),xP (tkS (tkS s 4) 4),xP (tkS (tkS (tkS s 4) 4) 4),xP (tkS (tkS (tkS (tkS s 4) 4) 4) 4)⟩,tkS (tkS (tkS (tkS (tkS s 4) 4) 4) 4) 4)
def qM (s:RdS):Blk×RdS:=
 (⟨xP s,num (tkB (tkS s 4).1 1),sgd (num (tkB (tkS (tkS s 4) 1).1 3)) 24,xP (tkS (tkS (tkS s 4) 1) 3),xP (tkS (tkS (tkS (tkS s 4) 1) 3) 4),xP (tkS (tkS (tkS (tkS (tkS s 4) 1) 3) 4) 4),xP (tkS (tkS (tkS (tkS (tkS (tkS s 4) 1) 3) 4) 4) 4)⟩,tkS (tkS (tkS (tkS (tkS (tkS (tkS s 4) 1) 3) 4) 4) 4) 4)
def js:Nat->RdS->List Blk×RdS
 | 0,s=>([],s)
 | n+1,s=>((qM s).1::(js n (qM s).2).1,(js n (qM s).2).2)
def wM (s:RdS):Int:=if ¬s.2=0 then s.2 else if 0<s.1.length then 4 else 0
def yZ (r:Rep) (s:RdS):Rep×Int:=if wM s=0 then (r,0) else (Qh,wM s)
def qG (c:qQ):Rep×Int:=
 if jx c=ύ then (Qh,1)
 else if c.2.1=200 then yZ ⟨ό,xP (c.2.2.1,0),(jA (tkS (c.2.2.1,0) 4)).1,(js c.1.toNat (jA (tkS (c.2.2.1,0) 4)).2).1⟩ (js c.1.toNat (jA (tkS (c.2.2.1,0) 4)).2).2
 else if c.2.1=201 then yZ ⟨ύ,xP (c.2.2.1,0),Jj,(js c.1.toNat (tkS (c.2.2.1,0) 4)).1⟩ (js c.1.toNat (tkS (c.2.2.1,0) 4)).2
 else (Qh,5)
def Oy (h:Jm s):(jA s).2=adv s 20:=by
 show tkS (tkS (tkS (tkS (tkS s (4:Nat)) (4:Nat)) (4:Nat)) (4:Nat)) (4:Nat)=_;rw[gz 4 h,xF,xF,xF,xF]
def Oz (h:Jm s):(qM s).2=adv s 24:=by
 show tkS (tkS (tkS (tkS (tkS (tkS (tkS s (4:Nat)) (1:Nat)) (3:Nat)) (4:Nat)) (4:Nat)) (4:Nat)) (4:Nat)=_;rw[gz 4 h,xF,xF,xF,xF,xF,xF]
def uB: ∀(n:Nat) {s:RdS},Jm s->(js n s).2=adv s (24* n)
 | 0,s,h=>by rw[Nat.mul_zero,Cu h];rfl
 | n+1,s,h=>by
  show (js n (qM s).2).2=_;rw[uB n (by rw[Oz h];exact vj _ _),Oz h,gG]
  congr 1
  omega
def uz: ∀(n:Nat) (s:RdS),(js n s).1.length=n
 | 0,_=>rfl
 | n+1,s=>by
  show ((qM s).1::(js n (qM s).2).1).length=_;rw[Ϙ,uz n]
def QM (c:qQ):Nat:=4+(if c.2.1=200 then 20 else 0)+24* c.1.toNat
def II (l:List Int):wM (l,0)=if 0<l.length then 4 else 0:=by unfold wM;rw[Ϗ η]
def IH:wM ([],3)=3:=by decide
def Fo (r:Rep) (s:RdS):(yZ r s).2=wM s:=by
 unfold yZ;split
 ·rename_i h;exact h.symm
 ·rfl
def GJ (c:qQ) (H:jx c=ό) (d:c.2.1=200∨c.2.1=201):(qG c).2=if c.2.2.1.length<QM c then 3 else if QM c<c.2.2.1.length then 4 else 0:=by
 have I:Jm (c.2.2.1,0):=λh=>ϧ rfl h
 have key: ∀(r:Rep) (s:RdS) (k:Nat),s=adv (c.2.2.1,0) k->(yZ r s).2=if c.2.2.1.length<k then 3 else if k<c.2.2.1.length then 4 else 0:=by
  rintro r s k rfl;rw[Fo];unfold adv;simp only[C1];by_cases h:k<=c.2.2.1.length
  ·rw[ϓ h,II,Ϭ];by_cases h2:k<c.2.2.1.length
   ·rw[ϓ τ,Ϗ τ,ϓ h2]
   ·rw[Ϗ τ,Ϗ τ,Ϗ h2]
  ·rw[Ϗ h,IH,ϓ τ]
 unfold qG;rw[Ϗ (by rw[H];simp)];have G:tkS (c.2.2.1,0) 4=adv (c.2.2.1,0) 4:=gz 4 I;rcases d with d | d
 ·rw[ϓ d];refine key _ _ _ ?_;rw[uB _ (by rw[Oy (by rw[G];exact vj _ _)];exact vj _ _),Oy (by rw[G];exact vj _ _),G,gG,gG];unfold QM;rw[ϓ d,N2]
 ·rw[Ϗ (by rw[d];decide),ϓ d];refine key _ _ _ ?_;rw[uB _ (by rw[G];exact vj _ _),G,gG];unfold QM;rw[Ϗ (by rw[d];decide),E9]
def xd (x:Int) (d:U32 x) (r:List Int):xP (qy x 4++r,0)=x/\tkS (qy x 4++r,0) 4=(r,0):=by
 obtain⟨G,H⟩:=JY x 4 ζ r;refine⟨?_,G⟩;unfold xP;simp only;rw[show tkB (qy x 4++r) 4=qy x 4 from H];exact Xi x 4 d.1 ζ (by have:=d.2;show x<4294967296;omega)
def YX (i:Inf) (h:Wv i) (r:List Int):jA (Yf i++r,0)=(i,(r,0)):=by
 unfold Yf;simp only[ϭ];obtain⟨d,H⟩:=xd i.sec h.sec (qy i.frac 4++(qy i.stamp 4++(qy i.pkts 4++(qy i.octs 4++r))));obtain⟨G,I⟩:=xd i.frac h.frac (qy i.stamp 4++(qy i.pkts 4++(qy i.octs 4++r)));obtain⟨a3,J⟩:=xd i.stamp h.stamp (qy i.pkts 4++(qy i.octs 4++r));obtain⟨a4,N⟩:=xd i.pkts h.pkts (qy i.octs 4++r);obtain⟨a5,O⟩:=xd i.octs h.octs r;unfold jA;simp only[d,H,G,I,a3,J,a4,N,a5,O]
def LT (x:Int) (h: -8388608<=x/\x<=8388607):sgd (x%16777216) 24=x:=by
 have d:two 24=16777216:=by decide
 have G:two (24-1)=8388608:=by decide
 unfold sgd;rw[d,G,Ϗ ζ];split<;>omega
def YZ (b:Blk) (h:QS b) (ac:kD b=ό) (r:List Int):qM (JK b++r,0)=(b,(r,0)):=by
 have ad: -8388608<=b.miss/\b.miss<=8388607:=by simpa [kD] using ac
 unfold JK;simp only[ϭ];obtain⟨I,O⟩:=xd b.src h.src (qy b.part 1++(qy (b.miss%4294967296) 3++(qy b.high 4++(qy b.jit 4++(qy b.last 4++(qy b.dly 4++r))))));obtain⟨G,d⟩:=JY b.part 1 ζ (qy (b.miss%4294967296) 3++(qy b.high 4++(qy b.jit 4++(qy b.last 4++(qy b.dly 4++r)))));obtain⟨H,a3⟩:=JY (b.miss%4294967296) 3 ζ (qy b.high 4++(qy b.jit 4++(qy b.last 4++(qy b.dly 4++r))));obtain⟨a4,U⟩:=xd b.high h.high (qy b.jit 4++(qy b.last 4++(qy b.dly 4++r)));obtain⟨a5,Y⟩:=xd b.jit h.jit (qy b.last 4++(qy b.dly 4++r));obtain⟨J,aa⟩:=xd b.last h.last (qy b.dly 4++r);obtain⟨N,ab⟩:=xd b.dly h.dly r;have n2:num (qy b.part (1:Nat))=b.part:=Xi _ 1 h.part.1 ζ (by have:=h.part.2;show b.part<256;omega);have n3:sgd (num (qy (b.miss%4294967296) (3:Nat))) 24=b.miss:=by
  have e:qy (b.miss%4294967296) (3:Nat)=qy (b.miss%4294967296%16777216) (3:Nat):=(QH _).symm;rw[e,Xi _ 3 τ ζ (by show _<16777216;omega),show b.miss%4294967296%16777216=b.miss%16777216 by omega];exact LT _ ad
 unfold qM;have G:tkS (qy b.part 1++(qy (b.miss%4294967296) 3++(qy b.high 4++(qy b.jit 4++(qy b.last 4++(qy b.dly 4++r))))),0) 1=(qy (b.miss%4294967296) 3++(qy b.high 4++(qy b.jit 4++(qy b.last 4++(qy b.dly 4++r)))),0):=G;have d:tkB (qy b.part 1++(qy (b.miss%4294967296) 3++(qy b.high 4++(qy b.jit 4++(qy b.last 4++(qy b.dly 4++r)))))) 1=qy b.part 1:=d;have H:tkS (qy (b.miss%4294967296) 3++(qy b.high 4++(qy b.jit 4++(qy b.last 4++(qy b.dly 4++r)))),0) 3=(qy b.high 4++(qy b.jit 4++(qy b.last 4++(qy b.dly 4++r))),0):=H;have a3:tkB (qy (b.miss%4294967296) 3++(qy b.high 4++(qy b.jit 4++(qy b.last 4++(qy b.dly 4++r))))) 3=qy (b.miss%4294967296) 3:=a3;have n2:num (qy b.part 1)=b.part:=n2;have n3:sgd (num (qy (b.miss%4294967296) 3)) 24=b.miss:=n3;simp only[I,O,d,G,a3,H,a4,U,a5,Y,J,aa,N,ab,n2,n3]
def Xm (b:Blk) (l:List Blk):flR (b::l)=JK b++flR l:=rfl
def uA: ∀(l:List Blk) (r:List Int),(∀b∈l,QS b/\kD b=ό)->js l.length (flR l++r,0)=(l,(r,0))
 | [],r,_=>rfl
 | b::l,r,h=>by
  have d:=h b η;rw[Xm,ϭ];show ((qM (JK b++(flR l++r),0)).1::(js l.length (qM (JK b++(flR l++r),0)).2).1,(js l.length (qM (JK b++(flR l++r),0)).2).2)=_;rw[YZ b d.1 d.2,uA l r (λc G=>h c (by simp[G]))]
def kM (r:Rep):vN r=ό↔(r.snd=ύ->r.inf=Jj)/\(∀b∈r.bl,kD b=ό)/\r.bl.length<=if r.snd then 7 else 8:=by
 unfold vN;simp only[C2,Bool.or_eq_true,C3,I3];constructor
 ·rintro⟨⟨d,G⟩,H⟩;refine⟨λh=> ?_,G,H⟩;rcases d with d | d
  ·rw[h] at d;cases d
  ·exact d
 ·rintro⟨d,G,H⟩;refine⟨⟨?_,G⟩,H⟩;cases hs:r.snd with
  | true=>exact ϑ rfl
  | false=>exact ϕ (d hs)
def VW (b:Blk):(JK b).length=24:=by
 unfold JK;simp only[ώ,qK _ _ (show (0:Int)<=4/\(4:Int)<=8 by decide),qK _ _ (show (0:Int)<=1/\(1:Int)<=8 by decide),qK _ _ (show (0:Int)<=3/\(3:Int)<=8 by decide)]
 decide
def VN (i:Inf):(Yf i).length=20:=by
 unfold Yf;simp only[ώ,qK _ _ (show (0:Int)<=4/\(4:Int)<=8 by decide)]
 decide
def YG (l:List Blk):(flR l).length=24* l.length:=by
 induction l with
 | nil=>rfl
 | cons b l ih=>rw[Xm,ώ,VW,ih,Ϙ];omega
def Bc (r:Rep):(Za r).length=4+(if r.snd then 20 else 0)+24* r.bl.length:=by
 unfold Za Zu;rw[ώ,ώ,YG,qK _ _ ζ];cases r.snd with
 | true=>simp[VN]
 | false=>simp
def kK {r:Rep} (h:vN r=ό):Qm r=(((r.bl.length:Int),(if r.snd then 200 else 201),Za r,()),0):=by unfold Qm;rw[ϓ h]
def YO {r:Rep} (h:vN r=ό):jx (Qm r).1=ό:=by
 obtain⟨_,_,d⟩:=(kM r).1 h;rw[kK h,zO];have G:=Bc r;simp only;cases hs:r.snd with
 | true=>rw[hs] at d G;simp at d G;omega
 | false=>rw[hs] at d G;simp at d G;omega
def YW {r:Rep} (G:Zx r) (h:vN r=ό):qG (Qm r).1=(r,0):=by
 have U:=YO h;obtain⟨N,O,Y⟩:=(kM r).1 h;unfold qG;rw[Ϗ (by rw[U];simp),kK h];obtain⟨s,src,i,bl⟩:=r;simp only at *;have d: ∀b∈bl,QS b/\kD b=ό:=λb d=>⟨G.bl b d,O b d⟩
 have J:yZ ⟨s,src,i,bl⟩ ([],0)=(⟨s,src,i,bl⟩,0):=rfl;cases s with
 | true=>
  have e:Za ⟨ό,src,i,bl⟩=qy src 4++(Yf i++(flR bl++[])):=by unfold Za Zu;simp[ϭ]
  rw[e];obtain⟨H,I⟩:=xd src G.src (Yf i++(flR bl++[]));simp only[C1,H,I,YX i G.inf,A5,uA bl [] d,J]
 | false=>
  have hi:i=Jj:=N rfl;subst hi;have e:Za ⟨ύ,src,Jj,bl⟩=qy src 4++(flR bl++[]):=by unfold Za Zu;simp[ϭ]
  rw[e];obtain⟨H,I⟩:=xd src G.src (flR bl++[]);simp only[H,I,A5,uA bl [] d];exact J
abbrev U8 (n:Int):Prop:=0<=n/\n<=255
def ahd (a b:Int):Int:=(b-a+32768)%65536-32768
def tb (m:Int) (k:Nat):Bool:=m.toNat.testBit k
def prN (p:Int×Int):List Int:=p.1::((List.range 16).filter (tb p.2)).map λk:Nat=>(p.1+k+1)%65536
def prJ (l:List (Int×Int)) (n:Int):Prop:= ¬l=[]/\1<=ahd (l.getLastD (0,0)).1 n/\ahd (l.getLastD (0,0)).1 n<=16
instance (l:List (Int×Int)) (n:Int):Decidable (prJ l n):=by unfold prJ;infer_instance
def WM (p:Int×Int):1<=(prN p).length/\(prN p).length<=17:=by
 unfold prN;rw[Ϙ,ϱ];have:=C7 (tb p.2) (List.range 16);rw[List.length_range] at this;omega
def Kn (h:l≠[]):l.getLastD 0=l.getD (l.length-1) 0:=by
 rw[List.getLastD_eq_getLast?,List.getLast?_eq_getElem?,ϒ]
structure Msg where
 kind:Int
 snd:Int
 med:Int
 asks:List (Int×Int)
 lost:List Int
def Msg.tup (b:Msg):Int×Int×Int×List (Int×Int)×List Int:=(b.kind,b.snd,b.med,b.asks,b.lost)
def Msg.tup_inj {a b:Msg} (h:a.tup=b.tup):a=b:=by
 obtain⟨⟩:=a;obtain⟨⟩:=b;simp only[Msg.tup,C8] at h;simp[h]
instance:DecidableEq Msg:=λ_ _=>decidable_of_iff _ ⟨Msg.tup_inj,λh=>by rw[h]⟩
structure Zz (m:Msg):Prop where
 snd:U32 m.snd
 med:U32 m.med
 asks: ∀a∈m.asks,U32 a.1/\U8 a.2
 lost: ∀x∈m.lost,U16 x
def JI:Msg:=⟨0,0,0,[],[]⟩
def gC:Zz JI:=⟨ζ,ζ,(λa h=>by cases h),(λa h=>by cases h)⟩
def Zv (k:Int):Int×Int:=if k=1 then (206,1) else if k=2 then (206,4) else (205,1)
def zy (c:qQ):Int:=if c.2.1=206/\c.1=1 then 1 else if c.2.1=206/\c.1=4 then 2 else if c.2.1=205/\c.1=1 then 3 else 0
def wu (s:RdS):(Int×Int)×RdS:=((xP s,num (tkB (tkS s 4).1 1)),tkS (tkS (tkS s 4) 1) 3)
def jm:Nat->List (Int×Int)->RdS->List (Int×Int)×RdS
 | 0,acc,s=>(acc,s)
 | n+1,acc,s=>if s.1=[] then (acc,s) else jm n (acc++[(wu s).1]) (wu s).2
def prS (s:RdS):(Int×Int)×RdS:=((num (tkB s.1 2),num (tkB (tkS s 2).1 2)),tkS (tkS s 2) 2)
def gm (acc:List Int) (p:Int×Int) (s:RdS):RdS:=if ¬acc=[]/\ ¬0<ahd (acc.getLastD 0) p.1 then wrS s 2 else s
def jc:Nat->List Int->RdS->List Int×RdS
 | 0,acc,s=>(acc,s)
 | n+1,acc,s=>if s.1=[] then (acc,s) else jc n (acc++prN (prS s).1) (gm acc (prS s).1 (prS s).2)
def zz (b:Int) (s:RdS):RdS:=if ¬b=0∨s.1.length=0∨ ¬s.1.length%8=0 then wrS s 2 else s
def xK (s:RdS):RdS:=if s.1.length=0 then wrS s 2 else s
def vX (m:Msg) (s:RdS):Msg×Int:=if wM s=0 then (m,0) else (JI,wM s)
def vD (k a b:Int) (s:RdS):Msg×Int:=
 if k=2 then vX ⟨2,a,b,(jm s.1.length [] (zz b s)).1,[]⟩ (jm s.1.length [] (zz b s)).2
 else if k=3 then vX ⟨3,a,b,[],(jc s.1.length [] (xK s)).1⟩ (jc s.1.length [] (xK s)).2
 else vX ⟨k,a,b,[],[]⟩ s
def qJ (c:qQ):Msg×Int:=
 if jx c=ύ then (JI,1)
 else if zy c=0 then (JI,5)
 else vD (zy c) (xP (c.2.2.1,0)) (xP (tkS (c.2.2.1,0) 4)) (tkS (tkS (c.2.2.1,0) 4) 4)
def zE (n:Nat) (acc:List (Int×Int)) (e:Int):jm n acc ([],e)=(acc,([],e)):=by
 cases n with
 | zero=>rfl
 | succ n=>unfold jm;rw[ϓ rfl]
def wE (n:Nat) (acc:List Int) (e:Int):jc n acc ([],e)=(acc,([],e)):=by
 cases n with
 | zero=>rfl
 | succ n=>unfold jc;rw[ϓ rfl]
def WR (h:Byt s.1):U16 (num (tkB s.1 2)):=by
 have:=zv (tkB s.1 2) 2 (jL h 2) (zh s.1 2 ζ) ζ;exact⟨this.1,τ⟩
def Iq (h:Byt s.1):U8 (num (tkB s.1 1)):=by
 have:=zv (tkB s.1 1) 1 (jL h 1) (zh s.1 1 ζ) ζ;exact⟨this.1,τ⟩
def Jx (h:Byt s.1):U32 (xP s):=by
 have:=zv (tkB s.1 4) 4 (jL h 4) (zh s.1 4 ζ) ζ;exact⟨this.1,by show num (tkB s.1 4)<=4294967295;omega⟩
def Gc (h:Byt s.1):U32 (wu s).1.1/\U8 (wu s).1.2/\Byt (wu s).2.1:=⟨Jx h,Iq (jK h 4),jK (jK (jK h 4) 1) 3⟩
def DZ (h:Byt s.1):U16 (prS s).1.1/\U16 (prS s).1.2/\Byt (prS s).2.1:=⟨WR h,WR (jK h 2),jK (jK h 2) 2⟩
def BM {acc:List Int} (h:Byt s.1):Byt (gm acc p s).1:=by
 unfold gm;split
 ·exact gu h 2
 ·exact h
def Jw (h:U16 p.1): ∀x∈prN p,U16 x:=by
 intro x d;unfold prN at d;rcases Ϟ.1 d with rfl | d
 ·exact h
 ·obtain⟨k,_,rfl⟩:=ο.1 d;constructor<;>omega
def gY: ∀(n:Nat) (acc:List (Int×Int)) (s:RdS),Byt s.1->(∀a∈acc,U32 a.1/\U8 a.2)-> ∀a∈(jm n acc s).1,U32 a.1/\U8 a.2
 | 0,_,_,_,h=>h
 | n+1,acc,s,hb,h=>by
  unfold jm;split
  ·exact h
  ·obtain⟨G,H,a3⟩:=Gc hb;refine gY n _ _ a3 λa d=> ?_
   rcases Ϫ.1 d with d | d
   ·exact h a d
   ·rw[A8] at d;subst d;exact⟨G,H⟩
def gX: ∀(n:Nat) (acc:List Int) (s:RdS),Byt s.1->(∀a∈acc,U16 a)-> ∀a∈(jc n acc s).1,U16 a
 | 0,_,_,_,h=>h
 | n+1,acc,s,hb,h=>by
  unfold jc;split
  ·exact h
  ·obtain⟨G,H,a3⟩:=DZ hb;refine gX n _ _ (BM a3) λa d=> ?_
   rcases Ϫ.1 d with d | d
   ·exact h a d
   ·exact Jw G a d
def QF {m:Msg} (h:Zz m):Zz (vX m s).1:=by
 unfold vX;split
 ·exact h
 ·exact gC
def Dk {b:Int} (h:Byt s.1):Byt (zz b s).1:=by
 unfold zz;split
 ·exact gu h 2
 ·exact h
def Pt (h:Byt s.1):Byt (xK s).1:=by
 unfold xK;split
 ·exact gu h 2
 ·exact h
def Bb {k a b:Int} (I:Byt s.1) (G:U32 a) (H:U32 b):Zz (vD k a b s).1:=by
 unfold vD;split
 ·exact QF ⟨G,H,gY _ _ _ (Dk I) (λx d=>by cases d),(λx d=>by cases d)⟩
 ·split
  ·exact QF ⟨G,H,(λx d=>by cases d),gX _ _ _ (Pt I) (λx d=>by cases d)⟩
  ·exact QF ⟨G,H,(λx d=>by cases d),(λx d=>by cases d)⟩
def Bg {c:qQ} (G:xk c):Zz (qJ c).1:=by
 have d:Byt ((c.2.2.1,0):RdS).1:=G.byt;unfold qJ;split
 ·exact gC
 ·split
  ·exact gC
  ·exact Bb (jK (jK d 4) 4) (Jx d) (Jx (jK d 4))
def UP {c:qQ} (h: ¬zy c=0):Zv (zy c)=(c.2.1,c.1)/\(zy c=1∨zy c=2∨zy c=3):=by
 unfold zy at h ⊢;unfold Zv;split
 ·rename_i e;exact⟨by rw[e.1,e.2];rfl,η⟩
 ·split
  ·rename_i e;exact⟨by rw[e.1,e.2];rfl,η⟩
  ·split
   ·rename_i e;exact⟨by rw[e.1,e.2];rfl,η⟩
   ·rename_i d G H;rw[Ϗ d,Ϗ G,Ϗ H] at h;exact ϧ rfl h
def Γp (x:Msg) (a:Option Addr) (b:Nat) (c:Option Addr) (d:Nat):Mm:=.o
instance (x:Msg) (a:Option Addr) (b:Nat) (c:Option Addr) (d:Nat):CoeDep Mm (Γp x a b c d) (List Value):=⟨[ι x.kind,ω x.snd,ω x.med,δ a x.asks.length b,δ c x.lost.length d]⟩
instance (x:Msg) (a:Option Addr) (b:Nat) (c:Option Addr) (d:Nat):CoeDep Mm (Γp x a b c d) (Array Value):=⟨((Γp x a b c d):List Value).toArray⟩
instance (x:Msg) (a:Option Addr) (b:Nat) (c:Option Addr) (d:Nat):CoeDep Mm (Γp x a b c d) Value:=⟨θ (Γp x a b c d)⟩
def UR (N:Byt L) (h:20<=L.length): ∃i r,L=Yf i++r/\Wv i/\Byt r:=by
 obtain⟨ad,ai,rfl,U,d⟩:=xv N τ;rw[ώ,qK _ _ ζ] at h;obtain⟨ae,aj,rfl,Y,G⟩:=xv d (by simp at h;omega);rw[ώ,qK _ _ ζ] at h;obtain⟨af,ak,rfl,aa,H⟩:=xv G (by simp at h;omega);rw[ώ,qK _ _ ζ] at h;obtain⟨ag,al,rfl,ab,I⟩:=xv H (by simp at h;omega);rw[ώ,qK _ _ ζ] at h;obtain⟨ah,O,rfl,ac,J⟩:=xv I (by simp at h;omega);exact⟨⟨ad,ae,af,ag,ah⟩,O,by unfold Yf;simp only[ϭ],⟨U,Y,aa,ab,ac⟩,J⟩
def U4 (af:Byt L) (h:24<=L.length): ∃b r,L=JK b++r/\QS b/\kD b=ό/\Byt r:=by
 obtain⟨ao,av,rfl,aj,J⟩:=xv af τ;rw[ώ,qK _ _ ζ] at h;obtain⟨I,aw,rfl,l1,G,N⟩:=wU 1 ζ J (by simp at h;omega);rw[ώ,qK _ _ ζ] at h;obtain⟨d,ax,rfl,l2,H,O⟩:=wU 3 ζ N (by simp at h;omega);rw[ώ,qK _ _ ζ] at h;obtain⟨ap,ay,rfl,ak,U⟩:=xv O (by simp at h;omega);rw[ώ,qK _ _ ζ] at h;obtain⟨aq,az,rfl,al,Y⟩:=xv U (by simp at h;omega);rw[ώ,qK _ _ ζ] at h;obtain⟨ar,aA,rfl,am,aa⟩:=xv Y (by simp at h;omega);rw[ώ,qK _ _ ζ] at h;obtain⟨au,ai,rfl,an,ab⟩:=xv aa (by simp at h;omega);have G:I<256:=G;have H:d<16777216:=H;have ah:=KR d 24 ζ ζ;have ag:=Ej d 24 ζ ζ;have ac:two 24=16777216:=by decide
 have ad:two (24-1)=8388608:=by decide
 rw[ad] at ah;rw[ac] at ag;have ae:qy (sgd d 24%4294967296) 3=qy d 3:=by
  rw[<-QH,<-QH d]
  congr 1
  omega
 refine⟨⟨ao,I,sgd d 24,ap,aq,ar,au⟩,ai, ?_,⟨aj,⟨l1,by simp only;omega⟩,⟨by simp only;omega,by simp only;omega⟩,ak,al,am,an⟩, ?_,ab⟩
 ·unfold JK;simp only[ϭ,ae];rfl
 ·unfold kD;simp only[C3];omega
def wX: ∀(n:Nat) {L:List Int},Byt L->24* n<=L.length-> ∃l r,l.length=n/\L=flR l++r/\(∀b∈l,QS b/\kD b=ό)/\Byt r
 | 0,L,hb,_=>⟨[],L,rfl,rfl,(λb h=>by cases h),hb⟩
 | n+1,L,hb,h=>by
  obtain⟨b,r,rfl,N,O,J⟩:=U4 hb τ;rw[ώ,VW] at h;obtain⟨l,U,G,rfl,H,I⟩:=wX n J τ;refine⟨b::l,U,by rw[Ϙ,G],by rw[Xm,ϭ],λc d=> ?_,I⟩;simp at d;rcases d with rfl | d
  ·exact⟨N,O⟩
  ·exact H c d
def WY:Wv Jj:=⟨ζ,ζ,ζ,ζ,ζ⟩
def Zk {c:qQ} (ah:xk c) (h:(qG c).2=0): ∃r,Zx r/\vN r=ό/\Qm r=(c,0):=by
 have aa:jx c=ό:=by
  cases x:jx c with
  | true=>rfl
  | false=>unfold qG at h;rw[ϓ x] at h;cases h
 have ab:c.2.1=200∨c.2.1=201:=by
  by_cases h1:c.2.1=200
  ·exact ϑ h1
  ·by_cases h2:c.2.1=201
   ·exact ϕ h2
   ·unfold qG at h;rw[Ϗ (by rw[aa];simp),Ϗ h1,Ϗ h2] at h;cases h
 have J:=GJ c aa ab;rw[h] at J;have G:c.2.2.1.length=QM c:=by
  by_cases h1:c.2.2.1.length<QM c
  ·rw[ϓ h1] at J;cases J
  ·by_cases h2:QM c<c.2.2.1.length
   ·rw[Ϗ h1,ϓ h2] at J;cases J
   ·omega
 obtain⟨ak,al,H⟩:=(zO c).1 aa;obtain⟨k,t,B,⟨⟩⟩:=c;obtain⟨⟨ai,aj⟩,_,d⟩:=ah;simp only at G ak al H ai aj d ab;unfold QM at G;simp only at G;obtain⟨O,an,rfl,ae,ad⟩:=xv d τ;rw[ώ,qK _ _ ζ] at G H;have ag:(4:Int).toNat=4:=rfl;rw[ag] at G H;rcases ab with rfl | rfl
 ·rw[ϓ rfl] at G;obtain⟨i,ao,rfl,am,af⟩:=UR ad τ;rw[ώ,VN] at G H;obtain⟨l,ac,l1,rfl,N,_⟩:=wX k.toNat af τ;rw[ώ,YG] at G H;have Y:ac=[]:=Ϡ τ;subst Y;have I:vN ⟨ό,O,i,l⟩=ό:=(kM _).2 ⟨(λh=>by cases h),λb d=>(N b d).2,by simp;omega⟩;refine⟨⟨ό,O,i,l⟩,⟨ae,am,λb d=>(N b d).1⟩,I, ?_⟩;rw[kK I];have U:((l.length:Int))=k:=by omega
  simp only[U,C1]
  congr 4
  unfold Za Zu;simp
 ·rw[Ϗ ζ] at G;obtain⟨l,ac,l1,rfl,N,_⟩:=wX k.toNat ad τ;rw[ώ,YG] at G H;have Y:ac=[]:=Ϡ τ;subst Y;have I:vN ⟨ύ,O,Jj,l⟩=ό:=(kM _).2 ⟨λh=>rfl,λb d=>(N b d).2,by simp;omega⟩;refine⟨⟨ύ,O,Jj,l⟩,⟨ae,WY,λb d=>(N b d).1⟩,I, ?_⟩;rw[kK I];have U:((l.length:Int))=k:=by omega
  simp only[U];unfold Za Zu;simp
def YP {c:qQ} {r:Rep} (J:xk c) (h:qG c=(r,0)):Qm r=(c,0)/\Zx r/\vN r=ό:=by
 obtain⟨N,d,G,H⟩:=Zk J (by rw[h]);have I:=YW d G;rw[H,h] at I;obtain rfl:r=N:=by injection I
 exact⟨H,d,G⟩
structure Itm where
 kind:Int
 rep:Rep
 msg:Msg
 oth:qQ
instance:DecidableEq Itm:=λa b=>decidable_of_iff (a.kind=b.kind/\a.rep=b.rep/\a.msg=b.msg/\(a.oth.1=b.oth.1/\a.oth.2.1=b.oth.2.1/\a.oth.2.2.1=b.oth.2.2.1)) (by
 obtain⟨ka,ra,ma,o1,o2,o3,⟨⟩⟩:=a;obtain⟨kb,rb,mb,p1,p2,p3,⟨⟩⟩:=b
 simp)
structure Wu (x:Itm):Prop where
 rep:Zx x.rep
 msg:Zz x.msg
 oth:xk x.oth
def Gj:qQ:=(0,0,[],())
def wL:Itm:=⟨0,Qh,JI,Gj⟩
def vg:List Int->Int
 | []=>0
 | e::l=>if e=0 then vg l else e
def qv (c:qQ):Itm×Int:=
 if c.2.1=200∨c.2.1=201 then (⟨1,(qG c).1,JI,Gj⟩,(qG c).2)
 else if (qJ c).2=5 then (⟨3,Qh,JI,c⟩,0) else (⟨2,Qh,(qJ c).1,Gj⟩,(qJ c).2)
def zx (b:List Int):List Itm×Int:=
 if (jI b).2=0 then (if vg ((jI b).1.map λc=>(qv c).2)=0 then ((jI b).1.map λc=>(qv c).1,0) else ([],vg ((jI b).1.map λc=>(qv c).2))) else ([],(jI b).2)
def WJ:Zx Qh:=⟨ζ,by constructor<;>decide,(λb h=>by cases h)⟩
def WQ:xk Gj:=⟨ζ,ζ,Byt.of_all (l:=[]) rfl⟩
def Γo (x:Itm) (a:Option Addr) (b:Nat) (c:Option Addr) (d:Nat) (e:Option Addr) (f:Nat) (g:Option Addr) (h:Nat):Mm:=.o
instance (x:Itm) (a:Option Addr) (b:Nat) (c:Option Addr) (d:Nat) (e:Option Addr) (f:Nat) (g:Option Addr) (h:Nat):CoeDep Mm (Γo x a b c d e f g h) (List Value):=⟨[ι x.kind,μ x.rep.snd,ω x.rep.src,ω x.rep.inf.sec,ω x.rep.inf.frac,ω x.rep.inf.stamp,ω x.rep.inf.pkts,ω x.rep.inf.octs,δ a x.rep.bl.length b,ι x.msg.kind,ω x.msg.snd,ω x.msg.med,δ c x.msg.asks.length d,δ e x.msg.lost.length f,υ x.oth.1,υ x.oth.2.1,δ g x.oth.2.2.1.length h]⟩
instance (x:Itm) (a:Option Addr) (b:Nat) (c:Option Addr) (d:Nat) (e:Option Addr) (f:Nat) (g:Option Addr) (h:Nat):CoeDep Mm (Γo x a b c d e f g h) (Array Value):=⟨((Γo x a b c d e f g h):List Value).toArray⟩
instance (x:Itm) (a:Option Addr) (b:Nat) (c:Option Addr) (d:Nat) (e:Option Addr) (f:Nat) (g:Option Addr) (h:Nat):CoeDep Mm (Γo x a b c d e f g h) Value:=⟨θ (Γo x a b c d e f g h)⟩
def Vf:qL (Int×Int):=λ_ cs a=>cs=[.int .u32 a.1,.int .u8 a.2]/\U32 a.1/\U8 a.2
def Cb:QQ Vf:=λ_ _ _ _ _ h=>h
def Au (q:Int):IntKind.i16.wrap q=(q+32768)%65536-32768:=by
 simp only[IntKind.wrap,IntKind.bits,IntKind.signed];simp;split<;>omega
def Ct (a b:Int):wrap64 (IntKind.i16.wrap (IntKind.u16.wrap (b-a)))=ahd a b:=by
 rw[Au,IntKind.wrap_u16];unfold ahd wrap64;omega
def Dl (a b:Int) (w:World) (d:U16 a) (G:U16 b):
  Calls prog 303 #[φ a,φ b] w λe w'=>e= .returned (ι (ahd a b))/\w=w':=by
 obtain⟨a0,H⟩:=d;obtain⟨I,J⟩:=G
 go_enter func303,ntmps303
 go_wp2;go_ret;refine⟨xV ?_,rfl⟩;exact Ct a b
def Yd (a b:Int) (w:World) (d:U16 a) (G:U16 b):
  Calls prog 267 #[φ a,φ b] w λe w'=>e= .returned (ι (ahd a b))/\w=w':=by
 go_enter func267,ntmps267
 go_wp2_with (go_at_call 303;(go_call Dl a b _ d G as e w1 ⟨rfl,rfl⟩))
 go_ret;exact⟨rfl,rfl⟩
def Dx (a b:Int) (w:World) (d:U16 a) (G:U16 b):
  Calls prog 299 #[φ a,φ b] w λe w'=>e= .returned (μ (decide (0<ahd a b)))/\w=w':=by
 go_enter func299,ntmps299
 go_wp2_with (go_at_call 267;(go_call Yd a b _ d G as e w1 ⟨rfl,rfl⟩))
 go_ret;exact⟨rfl,rfl⟩
def Xu (k:Int) (w:World):
  Calls prog 219 #[ι k] w λe w'=>e= .returned (.tuple #[υ (Zv k).1,υ (Zv k).2])/\w=w':=by
 by_cases h1:k=1
 ·subst h1
  go_enter func219,ntmps219
  go_wp2
  go_ret2
  exact⟨rfl,rfl⟩
 by_cases h2:k=2
 ·subst h2
  go_enter func219,ntmps219
  go_wp2
  go_ret2
  exact⟨rfl,rfl⟩
 have d:Zv k=(205,1):=by unfold Zv;rw[Ϗ h1,Ϗ h2]
 have G:=κ d;have H:(k==1)=ύ:=by simpa using h1
 have I:(k==2)=ύ:=by simpa using h2
 clear d h1 h2
 go_enter func219,ntmps219
 go_wp2
 go_ret2
 exact⟨by rw[G.o];rfl,rfl⟩
def Ci (h:i<l.length):l.getD i 0∈l:=by
 rw[ϒ,ϖ h];exact ϥ h
def Bw {e d:Nat} (H:n=w.heap.size) (G:base<=n) (J:d<=1000000) (I:cs.size=d* size):(w.alloc (.cells cs e)).ownsRow base e size (δ (ϊ ⟨n,0,ϋ⟩) d d) d cs.toList:=by
 subst H;exact World.ownsRow_lit w cs d G (by unfold maxLen;omega) I
def Fw {m:Int} (h:U16 m) (k:Nat):bits .and .u16 (m/2 ^ k) 1=if tb m k then 1 else 0:=by
 obtain⟨G,H⟩:=h;obtain⟨d,rfl⟩:=A4 G;have I:d/2 ^ k<=d:=Nat.div_le_self _ _;have e:((d:Int)/2 ^ k)=((d/2 ^ k:Nat):Int):=by simp
 rw[e,show (1:Int)=((1:Nat):Int) from rfl,u16_and_nat (d/2 ^ k) 1 τ ζ];unfold tb;rw[A5,Nat.testBit_eq_decide_div_mod_eq,Nat.and_one_is_mod];rcases Nat.mod_two_eq_zero_or_one (d/2 ^ k) with h | h<;>simp[h]
def Qi (p:Int×Int) (j:Nat):List Int:=p.1::((List.range j).filter (tb p.2)).map λk:Nat=>(p.1+k+1)%65536
def Il (p:Int×Int):Qi p 0=[p.1]:=rfl
def Pe (p:Int×Int) (j:Nat):Qi p (j+1)=Qi p j++(if tb p.2 j then [(p.1+j+1)%65536] else []):=by
 unfold Qi;rw[List.range_succ,G0,ϩ];by_cases h:tb p.2 j=ό
 ·simp[h]
 ·simp[h]
def Bs (p:Int×Int) (j:Nat) (h:j<=16):(Qi p j).length<=17:=by
 unfold Qi;rw[Ϙ,ϱ];have:=C7 (tb p.2) (List.range j);rw[List.length_range] at this;omega
def QJ (p:Int×Int) (w:World) (ag:U16 p.1) (U:U16 p.2):
  Calls prog 312 #[θ #[φ p.1,φ p.2]] w λe w'=> ∃v,e= .returned v/\w'.ownsRow w.heap.size 72 1 v (prN p).length ((prN p).map (Value.int .u16))/\ql w w':=by
 obtain⟨q,m⟩:=p;simp only at ag U;obtain⟨ao,hi,ak,am,an⟩:=info_parts (P:=prog) (e:=72) (z:= φ 0) (size:=1) (bytes:=2) ξ
 go_enter func312,ntmps312
 go_wp2
 go_loopw [3,8] (λv O wr=> ∃j:Nat,j<=16/\O= ι j/\wr.ownsRow (w.heap.size+1) 72 1 v (Qi (q,m) j).length ((Qi (q,m) j).map (Value.int .u16))/\ql (w.alloc (.cells #[φ q,φ m] 360)) wr) (λ_ O _=>16-(intOf O).toNat)
 case atStart=>
  refine⟨0,τ,rfl, ?_,ql.alloc _ _⟩;rw[Il];exact Bw (cs:= #[φ q]) η (ϔ _) ζ rfl
 case round=>
  obtain⟨j,ai,rfl,ac,G⟩:=hrel;have ap:=G.new 0 (v:= φ q) rfl;have aq:=G.new 1 (v:= φ m) rfl;have af:=κ ((ql.alloc w (.cells #[φ q,φ m] 360)).trans G);have J:=κ G;have H:=κ ac;have av:=Bs (q,m) j ai;by_cases hlt:j<16
  ·have ar:(j:Int)<16:=by omega
   have d:=Fw U j;have I:=κ (Pe (q,m) j);by_cases ht:tb m j=ό
   ·rw[ϓ ht] at d;have ah:(bits .and .u16 (m/2 ^ j) 1==1)=ό:=by rw[d];rfl
    obtain⟨n,aa⟩:=ν ((q+j+1)%65536);have au:IntKind.u16.wrap (IntKind.u16.wrap (q+(j:Int))+1)=n:=by rw[IntKind.wrap_u16,IntKind.wrap_u16];omega
    have N:Hid (Qi (q,m) (j+1)=Qi (q,m) j++[n]):=κ (by rw[I.o];simp only;rw[ϓ ht,aa]);clear d ht aa I G;generalize Qi (q,m) j=L at *;clear ac
    go_wp2_with (at_builtin;refine qU _ rfl (.tmp 17) (.tmp 24) 135 rfl (w.heap.size+1) 72 ao (φ 0) 2 underlying135 hi ak am an rfl _ .u16 L rfl (jE H.o X6) _ [n] rfl (SlI.lit .u16 wr [n] 72 _ 1 _ rfl rfl rfl η) (by simp only[Ϙ,Ϣ];omega) ζ (ϙ η (J.o.al _).size) ?_;intro v5 w5 ab Y _;have ae:=κ ab;have ad:=κ ((J.o.al (.cells #[φ n] 72)).grown Y (J.o.al (.cells #[φ n] 72)).size (λz aj=>by have:=jG H.o aj;simpa using this));clear ab Y)
    go_roundw
    case rel=>exact⟨j+1,τ,by go_num,by rw[N.o];exact ae.o,ad.o⟩
    case measure=>simp[intOf];omega
   ·rw[Ϗ ht] at d;have ah:(bits .and .u16 (m/2 ^ j) 1==1)=ύ:=by rw[d];rfl
    have N:Hid (Qi (q,m) (j+1)=Qi (q,m) j):=κ (by rw[I.o];simp only;rw[Ϗ ht,Θ]);clear d ht I;go_wp2;go_roundw
    case rel=>exact⟨j+1,τ,by go_num,by rw[N.o];exact H.o,J.o⟩
    case measure=>simp[intOf];omega
  ·obtain rfl:j=16:=by omega
   go_wp2;go_ret;exact⟨_,rfl,qbY H.o (D0 _),af.o⟩
def GG {e:Nat} (h:w.ownsRow base e size v n xs): ∃oa cap,v= δ oa n cap/\(n:Int)<=9223372036854775807:=by
 rcases h.2 with ⟨rfl,d⟩ | ⟨g,cap,cur,rfl,_,_,H,G,_⟩
 ·exact⟨ϋ,0,by rw[d],τ⟩
 ·exact⟨_,cap,rfl,by unfold maxLen at G;omega⟩
def AY {e:Nat} (h:w.ownsRow base e size v n xs) (J:0<n): ∃g cap,v= δ (ϊ ⟨g,0,ϋ⟩) n cap/\base<=g/\g<w.heap.size/\(n:Int)<=9223372036854775807:=by
 rcases h.2 with ⟨rfl,I⟩ | ⟨g,cap,cur,rfl,d,G,N,H,_⟩
 ·omega
 ·exact⟨g,cap,rfl,d,lt_of_block G,by unfold maxLen at H;omega⟩
def Fc {n t:Int} (h:t=206/\n=1):zy (n,t,b,())=1:=by unfold zy;rw[ϓ h]
def EZ {n t:Int} (h:t=206/\n=4):zy (n,t,b,())=2:=by unfold zy;rw[Ϗ (by simp only;omega),ϓ h]
def EY {n t:Int} (h:t=205/\n=1):zy (n,t,b,())=3:=by unfold zy;rw[Ϗ (by simp only;omega),Ϗ (by simp only;omega),ϓ h]
def Fd {n t:Int} (d: ¬(t=206/\n=1)) (G: ¬(t=206/\n=4)) (H: ¬(t=205/\n=1)):zy (n,t,b,())=0:=by unfold zy;rw[Ϗ d,Ϗ G,Ϗ H]
def Ue (w:World):Calls prog 219 #[ι 1] w λe w'=>e= .returned (.tuple #[υ 206,υ 1])/\w=w':=Xu 1 w
def Ud (w:World):Calls prog 219 #[ι 2] w λe w'=>e= .returned (.tuple #[υ 206,υ 4])/\w=w':=Xu 2 w
def Uc (w:World):Calls prog 219 #[ι 3] w λe w'=>e= .returned (.tuple #[υ 205,υ 1])/\w=w':=Xu 3 w
def eqB {a b:Int} (h:a=b):(a==b)=ό:=by simpa using h
def neB {a b:Int} (h: ¬a=b):(a==b)=ύ:=by simpa using h
def XN (n t:Int) (B:List Int) (I:Option Addr) (G:Nat) (w:World):
  Calls prog 300 #[θ #[υ n,υ t,δ I B.length G]] w λe w'=>e= .returned (ι (zy (n,t,B,())))/\ql w w':=by
 go_enter func300,ntmps300
 go_wp2
 go_loopw [9] (λad wr=> ∃j:Nat,j<=3/\ad= ι j/\(1<=j-> ¬(t=206/\n=1))/\(2<=j-> ¬(t=206/\n=4))/\(3<=j-> ¬(t=205/\n=1))/\ql ((w.alloc (.cells #[υ n,υ t,δ I B.length G] 145)).alloc (.cells #[ι 1,ι 2,ι 3] 3)) wr) (λad _=>3-(intOf ad).toNat)
 case atStart=>exact⟨0,τ,rfl,(λh=>by omega),(λh=>by omega),(λh=>by omega),ql.refl _⟩
 case round=>
  obtain⟨j,ak,rfl,ae,af,ag,H⟩:=hrel;have U:=κ ae;have ac:=κ af;have ah:=κ ag;clear ae af ag;have ab:=κ (((ql.alloc w (.cells #[υ n,υ t,δ I B.length G] 145)).al (.cells #[ι 1,ι 2,ι 3] 3)).trans H);have ai:=β0 (qq H (qs (qj w (.cells #[υ n,υ t,δ I B.length G] 145)) (.cells #[ι 1,ι 2,ι 3] 3)));have aj:=β1 (qq H (qs (qj w (.cells #[υ n,υ t,δ I B.length G] 145)) (.cells #[ι 1,ι 2,ι 3] 3)));have am:=β0 (qq H (qC (w:=w.alloc (.cells #[υ n,υ t,δ I B.length G] 145)) (o:=(.cells #[ι 1,ι 2,ι 3] 3)) (n:=w.heap.size+1) η));have l1:=β1 (qq H (qC (w:=w.alloc (.cells #[υ n,υ t,δ I B.length G] 145)) (o:=(.cells #[ι 1,ι 2,ι 3] 3)) (n:=w.heap.size+1) η));have l2:=β2 (qq H (qC (w:=w.alloc (.cells #[υ n,υ t,δ I B.length G] 145)) (o:=(.cells #[ι 1,ι 2,ι 3] 3)) (n:=w.heap.size+1) η));have O:=κ H;clear H;by_cases e0:j=0
  ·subst e0;by_cases ht:t=206
   ·have aa:=eqB ht;by_cases hn:n=1
    ·have Y:=eqB hn;have N:=κ (Fc (b:=B) ⟨ht,hn⟩);clear ht hn
     go_wp2_with (go_at_call 219;(go_call Ue _ as e J ⟨rfl,rfl⟩))
     go_ret;exact⟨by rw[N.o];rfl,ab.o⟩
    ·have Y:=neB hn;have d:=κ hn;clear ht hn
     go_wp2_with (go_at_call 219;(go_call Ue _ as e J ⟨rfl,rfl⟩))
     go_roundw
     case rel=>exact⟨1,τ,by first | rfl | go_num,(λ_=>(λh=>d.o h.2)),(λh=>by omega),(λh=>by omega),O.o⟩
     case measure=>simp[intOf]
   ·have aa:=neB ht;have d:=κ ht;clear ht
    go_wp2_with (go_at_call 219;(go_call Ue _ as e J ⟨rfl,rfl⟩))
    go_roundw
    case rel=>exact⟨1,τ,by first | rfl | go_num,(λ_=>(λh=>d.o h.1)),(λh=>by omega),(λh=>by omega),O.o⟩
    case measure=>simp[intOf]
  by_cases e1:j=1
  ·subst e1;clear e0;by_cases ht:t=206
   ·have aa:=eqB ht;by_cases hn:n=4
    ·have Y:=eqB hn;have N:=κ (EZ (b:=B) ⟨ht,hn⟩);clear ht hn
     go_wp2_with (go_at_call 219;(go_call Ud _ as e J ⟨rfl,rfl⟩))
     go_ret;exact⟨by rw[N.o];rfl,ab.o⟩
    ·have Y:=neB hn;have d:=κ hn;clear ht hn
     go_wp2_with (go_at_call 219;(go_call Ud _ as e J ⟨rfl,rfl⟩))
     go_roundw
     case rel=>exact⟨2,τ,by first | rfl | go_num,(λ_=>U.o τ),(λ_=>(λh=>d.o h.2)),(λh=>by omega),O.o⟩
     case measure=>simp[intOf]
   ·have aa:=neB ht;have d:=κ ht;clear ht
    go_wp2_with (go_at_call 219;(go_call Ud _ as e J ⟨rfl,rfl⟩))
    go_roundw
    case rel=>exact⟨2,τ,by first | rfl | go_num,(λ_=>U.o τ),(λ_=>(λh=>d.o h.1)),(λh=>by omega),O.o⟩
    case measure=>simp[intOf]
  by_cases e2:j=2
  ·subst e2;clear e0 e1;by_cases ht:t=205
   ·have aa:=eqB ht;by_cases hn:n=1
    ·have Y:=eqB hn;have N:=κ (EY (b:=B) ⟨ht,hn⟩);clear ht hn
     go_wp2_with (go_at_call 219;(go_call Uc _ as e J ⟨rfl,rfl⟩))
     go_ret;exact⟨by rw[N.o];rfl,ab.o⟩
    ·have Y:=neB hn;have d:=κ hn;clear ht hn
     go_wp2_with (go_at_call 219;(go_call Uc _ as e J ⟨rfl,rfl⟩))
     go_roundw
     case rel=>exact⟨3,τ,by first | rfl | go_num,(λ_=>U.o τ),(λ_=>ac.o τ),(λ_=>(λh=>d.o h.2)),O.o⟩
     case measure=>simp[intOf]
   ·have aa:=neB ht;have d:=κ ht;clear ht
    go_wp2_with (go_at_call 219;(go_call Uc _ as e J ⟨rfl,rfl⟩))
    go_roundw
    case rel=>exact⟨3,τ,by first | rfl | go_num,(λ_=>U.o τ),(λ_=>ac.o τ),(λ_=>(λh=>d.o h.1)),O.o⟩
    case measure=>simp[intOf]
  ·obtain rfl:j=3:=by omega
   have N:=κ (Fd (b:=B) (U.o τ) (ac.o τ) (ah.o τ));clear e0 e1 e2;go_wp2;go_ret;exact⟨by rw[N.o];rfl,ab.o⟩
structure DG (w:World) (va vl:Value) (m:Msg):Prop where
 asks:SlP 2 Vf w va m.asks
 lost:SlI .u16 w vl m.lost
def jX (w:World) (v:Value):Prop:= ∀g,v.ownBlock=ϊ g->w.heap.size<=g
def jX.nil (w:World):jX w (δ ϋ 0 0):=λg h=>by cases h
def Hw (x:Int):(qy x 4).length=4:=qK x 4 ζ
def XC {e:Nat} (h:w.ownsRow base e size v n xs) (m:jt S w w') (H: ∀b,v.ownBlock=ϊ b-> ¬S b):w'.ownsRow base e size v n xs:=by
 obtain⟨d,G⟩:=h;refine⟨d, ?_⟩;rcases G with h | ⟨g,cap,cur,e1,hb,hg,rest⟩
 ·exact ϑ h
 ·exact ϕ ⟨g,cap,cur,e1,hb,m.blk hg (H g (by rw[e1];rfl)),rest⟩
def WC {b:Nat} {t:TypeId} {a0 H I:Value} (h:w.heap[b]? =ϊ (.cells #[a0,H,I] t (0,0))) (v0 d G:Value):(((w.setCell ⟨b,0,ϋ⟩ v0).setCell ⟨b,1,ϋ⟩ d).setCell ⟨b,2,ϋ⟩ G).heap[b]? =ϊ (.cells #[v0,d,G] t (0,0)):=
 qB (qp (qp (qp h 0 v0) 1 d) 2 G) rfl
def ql.st3 (h:ql w w') (b:Nat) (d:w.heap.size<=b) (v0 G H:Value):ql w (((w'.setCell ⟨b,0,ϋ⟩ v0).setCell ⟨b,1,ϋ⟩ G).setCell ⟨b,2,ϋ⟩ H):=
 ((h.st (p:=⟨b,0,ϋ⟩) d v0).st (p:=⟨b,1,ϋ⟩) d G).st (p:=⟨b,2,ϋ⟩) d H
def Dj {H:Option Addr} {l:List (Int×Int)} (h:SlP 2 Vf w (δ H n c) l) (i:Nat) (hi:i<l.length): ∃b off,H=ϊ ⟨b,off,ϋ⟩/\b<w.heap.size/\
  (∀x,ql w x->x.cell? ⟨b,off+i* 2,ϋ⟩=ϊ (ω (l.getD i (0,0)).1)/\x.cell? ⟨b,off+i* 2+1,ϋ⟩=ϊ (υ (l.getD i (0,0)).2))/\U32 (l.getD i (0,0)).1/\U8 (l.getD i (0,0)).2:=by
 obtain⟨aa,U,e,_,J,_⟩:=h;cases e;obtain⟨b,off,cs,e,d,Y,G,rfl,N,O⟩:=J i hi;have I:l.getD i (0,0)=l[i]:=by rw[ϒ,ϖ hi];rfl
 rw[I];refine⟨b,off,e,d,λx m=>⟨?_, ?_⟩,N,O⟩
 ·rw[m.cells b _ d];exact G 0 ζ
 ·rw[m.cells b _ d];exact G 1 ζ
structure AkJ (w0 w:World) (R:Nat) (C:Nat->Prop) (v:Value) (acc:List (Int×Int)) (s:RdS):Prop where
 rd:qu w R s.1 s.2 C
 row:je 2 Vf (λb=>b=R) w w0.heap.size 356 v acc
 away:jt (λb=>b=R) w0 w
 hC: ∀g,C g->g<w0.heap.size
 hR:R<w0.heap.size
section
variable {w0 w w':World} {R:Nat} {C:Nat->Prop} {v v':Value} {acc acc':List (Int×Int)} {s s':RdS}
def AkJ.read (h:AkJ w0 w R C v acc s) (r:qu w' R s'.1 s'.2 C) (a:jt (λb=>b=R) w w'):AkJ w0 w' R C v acc s':=⟨r,h.row.step a,h.away.trans a,h.hC,h.hR⟩
def AkJ.on (h:AkJ w0 w R C v acc s) (m:ql w w'):AkJ w0 w' R C v acc s:=⟨h.rd.more m,h.row.on m,h.away.more m,h.hC,h.hR⟩
def AkJ.put (h:AkJ w0 w R C v acc s) (O:je 2 Vf (λb=>b=R) w' w0.heap.size 356 v' acc') (d:w.grownBy w' v.ownBlock):AkJ w0 w' R C v' acc' s:=by
 have I: ∀g,v.ownBlock=ϊ g->w0.heap.size<=g:=λg e=>h.row.ge e
 have H:=h.away.size;have a:jt (λb=>v.ownBlock=ϊ b) w w':=⟨d.os,d.tape,d.output,d.size,λk G H=>d.block k G (λe=>H e.symm)⟩;refine⟨h.rd.off a (λe=>by have:=I R e;have:=h.hR;omega) (λg J e=>by have:=I g e;have:=h.hC g J;omega),O, ?_,h.hC,h.hR⟩
 exact⟨a.os.trans h.away.os,a.tape.trans h.away.tape,a.output.trans h.away.output,ϙ H a.size,λk G N=>by
  rw[a.block k (ϗ G H) (λe=>by have:=I k e;omega)]
  exact h.away.block k G N⟩
end
def yg {acc:List (Int×Int)} (h: ¬s.1=[]):jm (n+1) acc s=jm n (acc++[(wu s).1]) (wu s).2:=by
 show (if s.1=[] then _ else _)=_;rw[Ϗ h]
def Xo (h: ¬s.1=[]):(wu s).2.1.length+1<=s.1.length:=by
 have d:=B3.2 h;have e:(wu s).2.1=((s.1.drop 4).drop 1).drop 3:=rfl;rw[e,Ϭ,Ϭ,Ϭ];omega
def VK (h: ¬s.1=[]):(0:Int)<(s.1.length:Int):=by
 have:=B3.2 h;omega
def Y7 {N:Nat->Prop} (h:qu w R s0.1 s0.2 N) (hR:R<w.heap.size):
  Calls prog 301 #[γ R] w λe w'=> ∃v',e= .returned v'/\AkJ w w' R (λg=>N g/\g<w.heap.size) v' (jm s0.1.length [] s0).1 (jm s0.1.length [] s0).2:=by
 obtain⟨aN,hi,aI,aJ,aK⟩:=info_parts (P:=prog) (e:=356) (z:= θ #[ω 0,υ 0]) (size:=2) (bytes:=8) ξ;obtain⟨C,aa⟩: ∃C:Nat->Prop,C=λg=>N g/\g<w.heap.size:=⟨_,rfl⟩
 have aw:Hid (AkJ w w R C (δ ϋ 0 0) [] s0):=κ (by rw[aa];exact⟨h.old,je.nil _ _ _ _ _ _,jt.refl _ _,λg h=>h.2,hR⟩);rw[<-aa];have aT:=h.small;clear aa h
 go_enter func301,ntmps301
 go_wp2
 go_loopw [3] (λv wr=> ∃acc s n,AkJ w wr R C v acc s/\s.1.length<=n/\jm n acc s=jm s0.1.length [] s0/\acc.length+s.1.length<=s0.1.length) (λv _=>s0.1.length-QO v)
 case atStart=>exact⟨[],s0,s0.1.length,aw.o,ϔ _,rfl,η⟩
 case round=>
  obtain⟨acc,s,n,ab,aR,I,aQ⟩:=hrel;have H:=κ ab;have aj:=κ I;obtain⟨aX,aV,aP,rfl,ap,aM⟩:=ab.row.shape;have az:=κ ap;clear ab I ap aM;by_cases hs:s.1=[]
  ·have I:=aj.o;obtain⟨l,e⟩:=s;simp only at hs;subst hs;rw[zE] at I;have ax:=κ I;clear I
   go_wp2_with (go_at_call 160;(go_call zn H.o.rd as e w9 ⟨rfl,rfl⟩))
   go_ret;exact⟨_,rfl,by rw[<-ax.o];exact H.o⟩
  ·have aS:=VK hs;have al:=Xo hs;have ae:=H.o.rd.byt;have an:=κ (Gc ae);obtain⟨n,rfl⟩: ∃k,n=k+1:=⟨n-1,by have:=B3.2 hs;omega⟩;have ay:Hid (jm n (acc++[(wu s).1]) (wu s).2=jm s0.1.length [] s0):=κ (by rw[<-yg hs];exact aj.o);have ai:=κ al;obtain⟨d,ac⟩: ∃X,num (tkB s.1 4)=X:=⟨_,rfl⟩;obtain⟨G,ad⟩: ∃X,num (tkB (tkS s 4).1 1)=X:=⟨_,rfl⟩;have aC:=κ ac;have aD:=κ ad;have O:Hid ((wu s).1=(d,G)):=κ (by rw[<-ac,<-ad];rfl);clear ae hs al ac ad
   go_wp2_with (first | (go_at_call 160;(go_call zn H.o.rd as e w9 ⟨rfl,rfl⟩)) | (go_at_call 157;(go_call jD H.o.rd as e w2 ⟨rfl,aq,ak⟩;rw[aC.o];have U:=κ (H.o.read (s':=tkS s 4) aq ak);clear aq ak)) | (go_at_call 155;(go_call jT U.o.rd as e au ⟨rfl,ag,a3⟩;rw[aD.o];have aB:=κ ((U.o.read (s':=tkS (tkS s 4) 1) ag a3).away.size);have Y:=κ ((U.o.read (s':=tkS (tkS s 4) 1) ag a3).on (ql.alloc au (.cells #[ω d,υ G] 356)));have av:=κ (qj au (.cells #[ω d,υ G] 356));clear ag a3)) | (go_at_call 311;(go_call Je Y.o.rd as e w4 ⟨rfl,ar,a4⟩;have aE:=κ (Y.o.read (s':=(wu s).2) ar a4);have ah:=κ (a4.blk av.o (λe=>by have:=Y.o.hR;have:=aB.o;omega));clear ar a4;have aG:=β0 ah.o;have aH:=β1 ah.o;have J:=κ (aE.o.on (ql.alloc w4 (.cells #[ω d,υ G] 356))))) | (at_builtin;refine jN _ rfl (.tmp 15) (.tmp 17) 134 rfl w.heap.size 356 aN (θ #[ω 0,υ 0]) 2 8 underlying134 hi aI aJ aK rfl ζ _ acc rfl J.o.row w4.heap.size [ω d,υ G] (d,G) rfl rfl (zS rfl) X8 (λ_ _=>⟨rfl,by have:=an.o.1;rw[O.o] at this;exact this,by have:=an.o.2.1;rw[O.o] at this;exact this⟩) (λb ae=>by have:=J.o.hR;have:=J.o.away.size;omega) ζ τ J.o.away.size ?_;intro aY w6 af am _;have aF:=κ (J.o.put af am);obtain⟨aW,aU,aO,rfl,ao,aL⟩:=af.shape;have aA:=κ ao;clear af am ao aL aG aH))
   go_roundw
   case rel=>exact⟨acc++[(d,G)],(wu s).2,n,aF.o,by have:=ai.o;omega,by have:=ay.o;rw[O.o] at this;exact this,by have:=ai.o;simp only[ώ,Ϙ,Ϣ];omega⟩
   case measure=>have:=aA.o;have:=az.o;simp[QO] at *;omega
structure LoJ (w0 w:World) (R:Nat) (C:Nat->Prop) (v:Value) (acc:List Int) (s:RdS):Prop where
 rd:qu w R s.1 s.2 C
 row:w.ownsRow w0.heap.size 72 1 v acc.length (acc.map (Value.int .u16))
 away:jt (λb=>b=R) w0 w
 hC: ∀g,C g->g<w0.heap.size
 hR:R<w0.heap.size
section
variable {w0 w w':World} {R:Nat} {C:Nat->Prop} {v v':Value} {acc acc':List Int} {s s':RdS}
def LoJ.read (h:LoJ w0 w R C v acc s) (r:qu w' R s'.1 s'.2 C) (a:jt (λb=>b=R) w w'):LoJ w0 w' R C v acc s':=⟨r,XC h.row a (λb d e=>by have:=jG h.row d;have:=h.hR;omega),h.away.trans a,h.hC,h.hR⟩
def LoJ.on (h:LoJ w0 w R C v acc s) (m:ql w w'):LoJ w0 w' R C v acc s:=⟨h.rd.more m,jE h.row m,h.away.more m,h.hC,h.hR⟩
def LoJ.put (h:LoJ w0 w R C v acc s) (O:w'.ownsRow w0.heap.size 72 1 v' acc'.length (acc'.map (Value.int .u16))) (d:w.grownBy w' v.ownBlock):LoJ w0 w' R C v' acc' s:=by
 have I: ∀g,v.ownBlock=ϊ g->w0.heap.size<=g:=λg e=>jG h.row e
 have H:=h.away.size;have a:jt (λb=>v.ownBlock=ϊ b) w w':=⟨d.os,d.tape,d.output,d.size,λk G H=>d.block k G (λe=>H e.symm)⟩;refine⟨h.rd.off a (λe=>by have:=I R e;have:=h.hR;omega) (λg J e=>by have:=I g e;have:=h.hC g J;omega),O, ?_,h.hC,h.hR⟩
 exact⟨a.os.trans h.away.os,a.tape.trans h.away.tape,a.output.trans h.away.output,ϙ H a.size,λk G N=>by
  rw[a.block k (ϗ G H) (λe=>by have:=I k e;omega)]
  exact h.away.block k G N⟩
end
def uJ {acc:List Int} (h: ¬s.1=[]):jc (n+1) acc s=jc n (acc++prN (prS s).1) (gm acc (prS s).1 (prS s).2):=by
 show (if s.1=[] then _ else _)=_;rw[Ϗ h]
def VD (acc:List Int) (p:Int×Int) (s:RdS):(gm acc p s).1.length<=s.1.length:=by
 unfold gm;split
 ·exact vH s 2
 ·exact ϔ _
def WK (h: ¬s.1=[]):(prS s).2.1.length+1<=s.1.length:=by
 have d:=B3.2 h;have e:(prS s).2.1=(s.1.drop 2).drop 2:=rfl;rw[e,Ϭ,Ϭ];omega
def yd (h:qu w R l e C):
  Calls prog 160 #[γ R] w λd w'=>d= .returned (ι l.length)/\w=w':=(zn h).mono λ_ _ ⟨a,b⟩=>⟨a,b.symm⟩
def Xx {e g k:Nat} {acc:List Int} (h:w.ownsRow base e 1 (δ (ϊ ⟨g,0,ϋ⟩) (k+1) c) acc.length (acc.map (Value.int .u16))) (d:acc.length=k+1):w.cell? ⟨g,k,ϋ⟩=ϊ (φ (acc.getD k 0)):=by
 rw[d] at h;rw[h.cellAt k τ,B6,ϒ,ϖ τ];rfl
def Bq (p:Int×Int):1<=(prN p).length/\(prN p).length<=17:=WM p
def Y6 {aM:Nat->Prop} (h:qu w R s0.1 s0.2 aM) (hR:R<w.heap.size):
  Calls prog 302 #[γ R] w λe w'=> ∃v',e= .returned v'/\LoJ w w' R (λg=>aM g/\g<w.heap.size) v' (jc s0.1.length [] (xK s0)).1 (jc s0.1.length [] (xK s0)).2:=by
 obtain⟨bd,hi,ba,bb,bc⟩:=info_parts (P:=prog) (e:=72) (z:= φ 0) (size:=1) (bytes:=2) ξ;obtain⟨C,aH⟩: ∃C:Nat->Prop,C=λg=>aM g/\g<w.heap.size:=⟨_,rfl⟩
 have bp:qu w R s0.1 s0.2 C:=by rw[aH];exact h.old
 have bi:Hid (∀g,C g->g<w.heap.size):=κ (by rw[aH];exact λg h=>h.2);rw[<-aH];have bT:=h.small;have aU:=κ bp;clear aH h bp;have bl:=κ (λw' (r:qu w' R s0.1 s0.2 C)=>zo (s:=s0) r 2)
 go_enter func302,ntmps302
 go_upto_if 7 with (go_at_call 160;(go_call yd aU.o as e w9 ⟨rfl,rfl⟩))
 go_cut [] from 7 to 9 (λbK=>LoJ w bK R C (δ ϋ 0 0) [] (xK s0))
 case first=>
  by_cases hs:s0.1.length=0
  ·have bs:((s0.1.length:Int)==0)=ό:=eqB τ;have an:xK s0=wrS s0 2:=by unfold xK;rw[ϓ hs]
   have aO:=κ an;clear an hs
   go_wp2_with (first | (go_at_call 158;(go_call bl.o _ aU.o as e H ⟨rfl,J,a3⟩;have U:Hid (LoJ w H R C (δ ϋ 0 0) [] (xK s0)):=κ (by rw[aO.o];exact⟨J,World.ownsRow_nil _ _ _ _,a3,bi.o,hR⟩);clear J a3)))
   go_meet;exact U.o
  ·have bs:((s0.1.length:Int)==0)=ύ:=neB τ;have an:xK s0=s0:=by unfold xK;rw[Ϗ hs]
   have aO:=κ an;clear an hs;go_wp2;go_meet;rw[aO.o];exact⟨aU.o,World.ownsRow_nil _ _ _ _,jt.refl _ _,bi.o,hR⟩
 case rest=>
 have bG:=κ hcut;clear hcut bl;have an:(xK s0).1.length<=s0.1.length:=by
  unfold xK;split
  ·exact vH _ _
  ·exact ϔ _
 go_wp2_with fail
 go_loopw [3] (λv wr=> ∃acc s n,LoJ w wr R C v acc s/\s.1.length<=n/\jc n acc s=jc s0.1.length [] (xK s0)/\acc.length+17* s.1.length<=17* s0.1.length/\(∀x∈acc,U16 x)) (λv _=>17* s0.1.length-QO v)
 case atStart=>exact⟨[],xK s0,s0.1.length,bG.o,an,rfl,by simp;omega,λx ao=>by cases ao⟩
 case round=>
  obtain⟨acc,s,n,aX,bS,aq,bR,bt⟩:=hrel;have aE:=κ bt;clear bt;have N:=κ aX;have bj:=κ aq;obtain⟨bU,bJ,bM,rfl,aC,bI⟩:=qfO aX.row;have bE:=κ aC;clear aX aq bI;by_cases hs:s.1=[]
  ·have aq:=bj.o;obtain⟨l,e⟩:=s;simp only at hs;subst hs;rw[wE] at aq;have bD:=κ aq;clear aq aC
   go_wp2_with (go_at_call 160;(go_call yd N.o.rd as e w9 ⟨rfl,rfl⟩))
   go_ret;exact⟨_,rfl,by rw[<-bD.o];exact N.o⟩
  ·have bs:=VK hs;have aI:=WK hs;have br:=N.o.rd.byt;obtain⟨be,bf,-⟩:=DZ br;obtain⟨n,rfl⟩: ∃k,n=k+1:=⟨n-1,by have:=B3.2 hs;omega⟩;have aD:Hid (jc n (acc++prN (prS s).1) (gm acc (prS s).1 (prS s).2)=jc s0.1.length [] (xK s0)):=κ (by rw[<-uJ hs];exact bj.o);have aN:=κ aI;have aJ:=VD acc (prS s).1 (prS s).2;obtain⟨d,aY⟩: ∃X,num (tkB s.1 2)=X:=⟨_,rfl⟩;obtain⟨G,aZ⟩: ∃X,num (tkB (tkS s 2).1 2)=X:=⟨_,rfl⟩;have aR:=κ aY;have aS:=κ aZ;have bq:(prS s).1=(d,G):=by rw[<-aY,<-aZ];rfl
   rw[bq] at aD aJ be bf;have am:=κ be;have aV:=κ bf;have O:=κ (Bq (d,G));clear br hs aY aZ bq be bf;have bF:=κ (λw' (r:qu w' R (prS s).2.1 (prS s).2.2 C)=>zo (s:=(prS s).2) r 2);by_cases ha:acc=[]
   ·subst ha;have e:gm [] (d,G) (prS s).2=(prS s).2:=by unfold gm;rw[Ϗ (λh=>h.1 rfl)]
    have av:Hid (jc n ([]++prN (d,G)) (prS s).2=jc s0.1.length [] (xK s0)):=κ (by rw[<-e];exact aD.o);have ae:Hid ((prS s).2.1.length+1<=s.1.length):=aN;obtain rfl:bJ=0:=aC;clear e aJ aI
    go_wp2_with (first | (go_at_call 160;(go_call yd N.o.rd as e w9 ⟨rfl,rfl⟩)) | (go_at_call 156;((with_reducible refine(xn N.o.rd).mono ?_);rintro e w2 ⟨rfl,ak,af⟩;rw[aR.o];have Y:=κ (N.o.read (s':=tkS s 2) ak af);clear ak af)) | (go_at_call 156;((with_reducible refine(xn Y.o.rd).mono ?_);rintro e H ⟨rfl,J,a3⟩;rw[aS.o];have U:=κ ((Y.o.read (s':=(prS s).2) J a3).on (ql.alloc H (.cells #[φ d,φ G] 360)));have aQ:=κ ((Y.o.read (s':=(prS s).2) J a3).away.size);have ad:=κ (qj H (.cells #[φ d,φ G] 360));clear J a3)))
    generalize az:H.alloc (.cells #[φ d,φ G] 360)=x3 at *;clear az;generalize H.heap.size=P3 at *;have aj:=λ(x:qt x3)=>β0 (qq x.h ad.o)
    refine qD x3 (ql.refl _) ξ ξ ?_
    repeat (go_big_quiet_step (fail))
    refine wpQuiet_nil ?_;intro _ aA;obtain⟨I,rfl⟩:=aA;have al:=κ (U.o.on I.h);have aF:=aj I;have aG:I.w'.cell? ⟨P3,1,ϋ⟩=ϊ (φ G):=qa (qq I.h ad.o) 1 rfl;clear aj U
    go_wp2_with (first | (go_at_call 312;(go_call QJ (d,G) _ am.o aV.o as e w6 ⟨bB,rfl,ac,ai⟩;have aa:=κ (al.o.on ai);have S6:=κ (SlI.of_owns ac (by have:=O.o.2;omega));obtain⟨bz,bw,bo,rfl,aB,-⟩:=qfO ac;clear ac ai aB)) | (at_builtin;refine qU _ rfl (.tmp 35) (.tmp 37) 135 rfl w.heap.size 72 bd (φ 0) 2 underlying135 hi ba bb bc rfl _ .u16 [] rfl aa.o.row _ (prN (d,G)) rfl S6.o (by have:=O.o.2;simp only[Ϣ] at *;omega) ζ aa.o.away.size ?_;intro bC w7 ab ag _;have ay:=κ (aa.o.put ab ag);obtain⟨bx,bv,bn,rfl,ah,-⟩:=qfO ab;have ax:=κ ah;clear ab ag ah))
    go_roundw
    case rel=>exact⟨[]++prN (d,G),(prS s).2,n,ay.o,by have:=ae.o;omega,av.o,by have:=ae.o;have:=O.o.2;rw[ώ];simp only[Ϣ] at *;omega,λx ao=>(Ϫ.1 ao).elim (aE.o x) (Jw am.o x)⟩
    case measure=>have:=ax.o;have:=bE.o;have:=O.o.1;simp[QO,ώ] at *;omega
   ·obtain⟨k,ar⟩: ∃k,acc.length=k+1:=⟨acc.length-1,by have:=B3.2 ha;omega⟩;have au:=Kn ha;rw[ar,Nat.add_sub_cancel] at au;have aK:=aE.o _ (Ci (l:=acc) (i:=k) τ);have ap:=κ ar;rw[ar] at aC;subst aC;obtain⟨g,bL,bu,bN,bO,-⟩:=AY N.o.row τ;rw[ar] at bu;cases bu;obtain⟨y,aL⟩:=ν (acc.getD k 0);rw[aL] at aK au;have bm:=κ aL;have bk:=κ (λw=>Dx y d w aK am.o);have bP:(0:Int)<(k:Int)+1:=by omega
    have bQ:(k:Int)<=9223372036854775807:=by omega
    by_cases hd:0<ahd y d
    ·have e:gm acc (d,G) (prS s).2=(prS s).2:=by unfold gm;rw[Ϗ (λh=>h.2 (by rw[au];exact hd))]
     have av:Hid (jc n (acc++prN (d,G)) (prS s).2=jc s0.1.length [] (xK s0)):=κ (by rw[<-e];exact aD.o);have ae:Hid ((prS s).2.1.length+1<=s.1.length):=aN;have bH:decide (0<ahd y d)=ό:=ϻ hd;clear e aJ aI hd ha ar au aK aL
     go_wp2_with (first | (go_at_call 160;(go_call yd N.o.rd as e w9 ⟨rfl,rfl⟩)) | (go_at_call 156;((with_reducible refine(xn N.o.rd).mono ?_);rintro e w2 ⟨rfl,ak,af⟩;rw[aR.o];have Y:=κ (N.o.read (s':=tkS s 2) ak af);clear ak af)) | (go_at_call 156;((with_reducible refine(xn Y.o.rd).mono ?_);rintro e H ⟨rfl,J,a3⟩;rw[aS.o];have U:=κ ((Y.o.read (s':=(prS s).2) J a3).on (ql.alloc H (.cells #[φ d,φ G] 360)));have aQ:=κ ((Y.o.read (s':=(prS s).2) J a3).away.size);have ad:=κ (qj H (.cells #[φ d,φ G] 360));clear J a3)))
     generalize az:H.alloc (.cells #[φ d,φ G] 360)=x3 at *;clear az
     have aw:Hid (∀x:qt x3,x.w'.cell? ⟨g,k,ϋ⟩=ϊ (φ y)):=κ (λx=>by
      have aW:=Xx (jE U.o.row x.h) ap.o
      rw[aW,bm.o])
     have aP:=aw.o;generalize H.heap.size=P3 at *;have aj:=λ(x:qt x3)=>β0 (qq x.h ad.o)
     refine qD x3 (ql.refl _) ξ ξ ?_
     repeat (go_big_quiet_step ((go_at_call 299;with_reducible exact kB ((bk.o _).mono λ_ _ ⟨e,h⟩=>⟨e,h.symm⟩))))
     refine wpQuiet_nil ?_;intro _ aA;obtain⟨I,rfl⟩:=aA;have al:=κ (U.o.on I.h);have aF:=aj I;have aG:I.w'.cell? ⟨P3,1,ϋ⟩=ϊ (φ G):=qa (qq I.h ad.o) 1 rfl;have bh:=κ (qq I.h ad.o);clear aj U aP aw;have aT:=al
     go_wp2_with (first | (go_at_call 312;(go_call QJ (d,G) _ am.o aV.o as e w6 ⟨bB,rfl,ac,ai⟩;have aa:=κ (aT.o.on ai);have S6:=κ (SlI.of_owns ac (by have:=O.o.2;omega));obtain⟨bz,bw,bo,rfl,aB,-⟩:=qfO ac;clear ac ai aB)) | (at_builtin;refine qU _ rfl (.tmp 35) (.tmp 37) 135 rfl w.heap.size 72 bd (φ 0) 2 underlying135 hi ba bb bc rfl _ .u16 acc rfl aa.o.row _ (prN (d,G)) rfl S6.o (by have:=O.o.2;have:=ap.o;omega) ζ aa.o.away.size ?_;intro bC w7 ab ag _;have ay:=κ (aa.o.put ab ag);obtain⟨bx,bv,bn,rfl,ah,-⟩:=qfO ab;have ax:=κ ah;clear ab ag ah))
     go_roundw
     case rel=>exact⟨acc++prN (d,G),(prS s).2,n,ay.o,by have:=ae.o;omega,av.o,by have:=ae.o;have:=O.o.2;rw[ώ];omega,λx ao=>(Ϫ.1 ao).elim (aE.o x) (Jw am.o x)⟩
     case measure=>have:=ax.o;have:=ap.o;have:=O.o.1;simp[QO,ώ] at *;omega
    ·have e:gm acc (d,G) (prS s).2=wrS (prS s).2 2:=by unfold gm;rw[ϓ ⟨ha,by rw[au];exact hd⟩]
     have av:Hid (jc n (acc++prN (d,G)) (wrS (prS s).2 2)=jc s0.1.length [] (xK s0)):=κ (by rw[<-e];exact aD.o);have ae:Hid ((wrS (prS s).2 2).1.length+1<=s.1.length):=κ (by have:=aN.o;have:=vH (prS s).2 2;omega);have bH:decide (0<ahd y d)=ύ:=ϯ hd;clear e aJ aI hd ha ar au aK aL
     go_wp2_with (first | (go_at_call 160;(go_call yd N.o.rd as e w9 ⟨rfl,rfl⟩)) | (go_at_call 156;((with_reducible refine(xn N.o.rd).mono ?_);rintro e w2 ⟨rfl,ak,af⟩;rw[aR.o];have Y:=κ (N.o.read (s':=tkS s 2) ak af);clear ak af)) | (go_at_call 156;((with_reducible refine(xn Y.o.rd).mono ?_);rintro e H ⟨rfl,J,a3⟩;rw[aS.o];have U:=κ ((Y.o.read (s':=(prS s).2) J a3).on (ql.alloc H (.cells #[φ d,φ G] 360)));have aQ:=κ ((Y.o.read (s':=(prS s).2) J a3).away.size);have ad:=κ (qj H (.cells #[φ d,φ G] 360));clear J a3)))
     generalize az:H.alloc (.cells #[φ d,φ G] 360)=x3 at *;clear az
     have aw:Hid (∀x:qt x3,x.w'.cell? ⟨g,k,ϋ⟩=ϊ (φ y)):=κ (λx=>by
      have aW:=Xx (jE U.o.row x.h) ap.o
      rw[aW,bm.o])
     have aP:=aw.o;generalize H.heap.size=P3 at *;have aj:=λ(x:qt x3)=>β0 (qq x.h ad.o)
     refine qD x3 (ql.refl _) ξ ξ ?_
     repeat (go_big_quiet_step ((go_at_call 299;with_reducible exact kB ((bk.o _).mono λ_ _ ⟨e,h⟩=>⟨e,h.symm⟩))))
     refine wpQuiet_nil ?_;intro _ aA;obtain⟨I,rfl⟩:=aA;have al:=κ (U.o.on I.h);have aF:=aj I;have aG:I.w'.cell? ⟨P3,1,ϋ⟩=ϊ (φ G):=qa (qq I.h ad.o) 1 rfl;have bh:=κ (qq I.h ad.o);clear aj U aP aw
     go_wp2_with (first | (go_at_call 158;(go_call bF.o _ al.o.rd as e w5 ⟨rfl,bA,a5⟩;have aT:=κ (al.o.read (s':=wrS (prS s).2 2) bA a5);have bg:=κ (a5.blk bh.o (λe=>by have:=al.o.hR;have:=aQ.o;omega));clear bA a5 aF aG;have aF:=β0 bg.o;have aG:=β1 bg.o)) | (go_at_call 312;(go_call QJ (d,G) _ am.o aV.o as e w6 ⟨bB,rfl,ac,ai⟩;have aa:=κ (aT.o.on ai);have S6:=κ (SlI.of_owns ac (by have:=O.o.2;omega));obtain⟨bz,bw,bo,rfl,aB,-⟩:=qfO ac;clear ac ai aB)) | (at_builtin;refine qU _ rfl (.tmp 35) (.tmp 37) 135 rfl w.heap.size 72 bd (φ 0) 2 underlying135 hi ba bb bc rfl _ .u16 acc rfl aa.o.row _ (prN (d,G)) rfl S6.o (by have:=O.o.2;have:=ap.o;omega) ζ aa.o.away.size ?_;intro bC w7 ab ag _;have ay:=κ (aa.o.put ab ag);obtain⟨bx,bv,bn,rfl,ah,-⟩:=qfO ab;have ax:=κ ah;clear ab ag ah))
     go_roundw
     case rel=>exact⟨acc++prN (d,G),(wrS (prS s).2 2),n,ay.o,by have:=ae.o;omega,av.o,by have:=ae.o;have:=O.o.2;rw[ώ];omega,λx ao=>(Ϫ.1 ao).elim (aE.o x) (Jw am.o x)⟩
     case measure=>have:=ax.o;have:=ap.o;have:=O.o.1;simp[QO,ώ] at *;omega
def Ma {e:Nat} (h:w.ownsRow base e 1 v n xs):(n:Int)<=9223372036854775807:=by
 rcases h.2 with ⟨_,G⟩ | ⟨g,cap,cur,_,_,_,H,d,_⟩
 ·omega
 ·unfold maxLen at d;omega
structure RdB (w0 w:World) (R:Nat) (l:List Int) (e:Int) (C:Nat->Prop) (B1 B2:Nat) (z cs:Array Value) (T:Nat):Prop where
 rd:qu w R l e (λg=>C g/\g<w0.heap.size)
 away:jt (λb=>b=R) w0 w
 b1:w.heap[B1]? =ϊ (.cells z T (0,0))
 b2:w.heap[B2]? =ϊ (.cells cs T (0,0))
 n1:w0.heap.size<=B1
 n2:B1<B2
 hR:R<w0.heap.size
def RdB.new (z:Array Value) (T:Nat) (h:qu w R l e C):RdB w ((w.alloc (.cells z T)).alloc (.cells z T)) R l e C w.heap.size (w.heap.size+1) z z T:=
 ⟨(h.old.more X6).more X6,jt.of_more (X6.al _),qs (qj w _) _,qC η,ϔ _,K5 _,by obtain⟨v,d,_⟩:=h.blk;exact qn d⟩
def RdB.step {d:World} {l':List Int} {I:Int} {G H:Nat} (h:RdB d w R l e C G H z cs T) (r:qu w' R l' I (λg=>C g/\g<d.heap.size)) (a:jt (λb=>b=R) w w'):RdB d w' R l' I C G H z cs T:=
 ⟨r,h.away.trans a,a.blk h.b1 (by have:=h.n1;have:=h.hR;omega),a.blk h.b2 (by have:=h.n1;have:=h.n2;have:=h.hR;omega),h.n1,h.n2,h.hR⟩
def VX {d:World} (h:jt (λb=>b=R) d w) (I:d.heap.size<=B) (o:Nat) (v:Value):jt (λb=>b=R) d (w.setCell ⟨B,o,ϋ⟩ v):=by
 have a:jt (λb=>b=B) w (w.setCell ⟨B,o,ϋ⟩ v):=(jt.refl (λb=>b=B) w).set (p:=⟨B,o,ϋ⟩) rfl v;exact⟨a.os.trans h.os,a.tape.trans h.tape,a.output.trans h.output,ϙ h.size a.size,λk G H=>by rw[a.block k (ϗ G h.size) τ];exact h.block k G H⟩
def RdB.store {H:World} {G d:Nat} (h:RdB H w R l e C G d z cs T) (i:Nat) (v:Value):RdB H (w.setCell ⟨d,i,ϋ⟩ v) R l e C G d z (cs.setIfInBounds i v) T:=by
 have I:=h.n1;have J:=h.n2;have N:=h.hR;have a:jt (λb=>b=d) w (w.setCell ⟨d,i,ϋ⟩ v):=(jt.refl (λb=>b=d) w).set (p:=⟨d,i,ϋ⟩) rfl v;exact⟨h.rd.off a τ (λg O e=>by omega),VX h.away τ i v,a.blk h.b1 τ,qp h.b2 i v,h.n1,h.n2,h.hR⟩
def RdB.fill {H:World} {d G:Nat} (h:RdB H w R l e C d G z cs T) (i:Nat) (v:Value):RdB H (w.setCell ⟨d,i,ϋ⟩ v) R l e C d G (z.setIfInBounds i v) cs T:=by
 have I:=h.n1;have J:=h.n2;have N:=h.hR;have a:jt (λb=>b=d) w (w.setCell ⟨d,i,ϋ⟩ v):=(jt.refl (λb=>b=d) w).set (p:=⟨d,i,ϋ⟩) rfl v;exact⟨h.rd.off a τ (λg O e=>by omega),VX h.away τ i v,qp h.b1 i v,a.blk h.b2 τ,h.n1,h.n2,h.hR⟩
def kp (h:Byt s.1):U32 (xP s):=by
 have:=zv (tkB s.1 4) 4 (jL h 4) (zh s.1 4 ζ) ζ;unfold xP;exact⟨this.1,τ⟩
def At (q:Int):IntKind.i32.wrap q=(q+2147483648)%4294967296-2147483648:=by
 unfold IntKind.wrap;simp[IntKind.bits,IntKind.signed]
 try omega
def Kx (h:qu w R s.1 s.2 C):
  Calls prog 314 #[γ R] w λe w'=>e= .returned (θ #[ω (jA s).1.sec,ω (jA s).1.frac,ω (jA s).1.stamp,ω (jA s).1.pkts,ω (jA s).1.octs])/\qu w' R (jA s).2.1 (jA s).2.2 C/\jt (λb=>b=R) w w':=by
 obtain⟨L,E⟩:=s;simp only at h;have O:=RdB.new #[ω 0,ω 0,ω 0,ω 0,ω 0] 140 h;have ac:=h.byt;have ag:jA (L,E)=(⟨num (tkB L 4),num (tkB (tkL L 4) 4),num (tkB (tkL (tkL L 4) 4) 4),num (tkB (tkL (tkL (tkL L 4) 4) 4) 4),num (tkB (tkL (tkL (tkL (tkL L 4) 4) 4) 4) 4)⟩,((tkL (tkL (tkL (tkL (tkL L 4) 4) 4) 4) 4),(tkE (tkL (tkL (tkL (tkL L 4) 4) 4) 4) 4 (tkE (tkL (tkL (tkL L 4) 4) 4) 4 (tkE (tkL (tkL L 4) 4) 4 (tkE (tkL L 4) 4 (tkE L 4 E))))))):=rfl;have N:=κ ag;clear ag;have ad:Byt (tkL L 4):=ac.drop _;generalize aC:num (tkB L 4)=n0 at *;generalize ap:tkE L 4 E=E1 at *;generalize aw:tkL L 4=L1 at *;have ae:Byt (tkL L1 4):=ad.drop _;generalize aD:num (tkB L1 4)=n1 at *;generalize aq:tkE L1 4 E1=E2 at *;generalize ax:tkL L1 4=L2 at *;have af:Byt (tkL L2 4):=ae.drop _;generalize aE:num (tkB L2 4)=n2 at *;generalize ar:tkE L2 4 E2=E3 at *;generalize ay:tkL L2 4=L3 at *;have aB:Byt (tkL L3 4):=af.drop _;generalize aF:num (tkB L3 4)=n3 at *;generalize au:tkE L3 4 E3=E4 at *;generalize az:tkL L3 4=L4 at *;generalize aG:num (tkB L4 4)=n4 at *;generalize av:tkE L4 4 E4=E5 at *;generalize aA:tkL L4 4=L5 at *;clear ac ad ae af aB
 go_enter func314,ntmps314
 go_wp2_with first | (go_at_call 157;((with_reducible refine(jD O.rd).mono ?_);rintro e w10 ⟨rfl,aH,a0⟩;have G:=O.step aH a0;rw[aw,ap] at G;rw[aC];have U:=G.store 0 (ω n0);have aM:=β0 G.b2;have aR:=yw G.b2 0)) | (go_at_call 157;((with_reducible refine(jD U.rd).mono ?_);rintro e aW ⟨rfl,aI,ai⟩;have H:=U.step aI ai;rw[ax,aq] at H;rw[aD];have Y:=H.store 1 (ω n1);have c1:=β1 H.b2;have aS:=yw H.b2 1)) | (go_at_call 157;((with_reducible refine(jD Y.rd).mono ?_);rintro e aX ⟨rfl,aJ,aj⟩;have I:=Y.step aJ aj;rw[ay,ar] at I;rw[aE];have aa:=I.store 2 (ω n2);have c2:=β2 I.b2;have aT:=yw I.b2 2)) | (go_at_call 157;((with_reducible refine(jD aa.rd).mono ?_);rintro e w13 ⟨rfl,aK,a3⟩;have J:=aa.step aK a3;rw[az,au] at J;rw[aF];have ab:=J.store 3 (ω n3);have c3:=β3 J.b2;have aU:=yw J.b2 3)) | (go_at_call 157;((with_reducible refine(jD ab.rd).mono ?_);rintro e w14 ⟨rfl,aL,a4⟩;have d:=ab.step aL a4;rw[aA,av] at d;rw[aG];have ah:=d.store 4 (ω n4);have c4:=β4 d.b2;have aV:=yw d.b2 4;have aN:=β0 d.b2;have aO:=β1 d.b2;have aP:=β2 d.b2;have aQ:=β3 d.b2;have ak:=β0 d.b1;have z0:=yw d.b1 0;have al:=β1 d.b1;have aY:=yw d.b1 1;have am:=β2 d.b1;have aZ:=yw d.b1 2;have an:=β3 d.b1;have z3:=yw d.b1 3;have ao:=β4 d.b1;have z4:=yw d.b1 4))
 (refine bodyPost_ret (v:= θ #[ω n0,ω n1,ω n2,ω n3,ω n4]) ?rr1 rfl ?_;(case rr1=>(simp[results,results314,go_sem,ak,al,am,an,ao])))
 have Z:=(((((ah.fill 0 (ω n0)).fill 1 (ω n1)).fill 2 (ω n2)).fill 3 (ω n3)).fill 4 (ω n4));exact⟨by rw[N.o],by rw[N.o];exact Z.rd.mono λg h=>h.1,Z.away⟩
def Kz (h:qu w R s.1 s.2 C):
  Calls prog 315 #[γ R] w λe w'=>e= .returned (θ #[ω (qM s).1.src,υ (qM s).1.part,χ (qM s).1.miss,ω (qM s).1.high,ω (qM s).1.jit,ω (qM s).1.last,ω (qM s).1.dly])/\qu w' R (qM s).2.1 (qM s).2.2 C/\jt (λb=>b=R) w w':=by
 obtain⟨L,E⟩:=s;simp only at h;have aa:=RdB.new Γe 354 h;have ah:=h.byt;have an:qM (L,E)=(⟨num (tkB L 4),num (tkB (tkL L 4) 1),sgd (num (tkB (tkL (tkL L 4) 1) 3)) 24,num (tkB (tkL (tkL (tkL L 4) 1) 3) 4),num (tkB (tkL (tkL (tkL (tkL L 4) 1) 3) 4) 4),num (tkB (tkL (tkL (tkL (tkL (tkL L 4) 1) 3) 4) 4) 4),num (tkB (tkL (tkL (tkL (tkL (tkL (tkL L 4) 1) 3) 4) 4) 4) 4)⟩,((tkL (tkL (tkL (tkL (tkL (tkL (tkL L 4) 1) 3) 4) 4) 4) 4),(tkE (tkL (tkL (tkL (tkL (tkL (tkL L 4) 1) 3) 4) 4) 4) 4 (tkE (tkL (tkL (tkL (tkL (tkL L 4) 1) 3) 4) 4) 4 (tkE (tkL (tkL (tkL (tkL L 4) 1) 3) 4) 4 (tkE (tkL (tkL (tkL L 4) 1) 3) 4 (tkE (tkL (tkL L 4) 1) 3 (tkE (tkL L 4) 1 (tkE L 4 E))))))))):=rfl;have Y:=κ an;clear an;have ai:Byt (tkL L 4):=ah.drop _;generalize aR:num (tkB L 4)=n0 at *;generalize aC:tkE L 4 E=E1 at *;generalize aJ:tkL L 4=L1 at *;have U:Byt (tkL L1 1):=ai.drop _;generalize aS:num (tkB L1 1)=n1 at *;generalize aD:tkE L1 1 E1=E2 at *;generalize aK:tkL L1 1=L2 at *;have am:=zv (tkB L2 3) 3 (jL U 3) (zh L2 3 ζ) ζ;have aj:Byt (tkL L2 3):=U.drop _;generalize aT:num (tkB L2 3)=n2 at *;generalize aE:tkE L2 3 E2=E3 at *;generalize aL:tkL L2 3=L3 at *;have ba:U64 n2:=by
  unfold U64;omega
 have bz:IntKind.u64.wrap n2=n2:=by
  exact G6 am.1 (by show n2<18446744073709551616;omega)
 have ao:=KR n2 24 ζ ζ;have aZ:(sgd n2 24+2147483648)%4294967296-2147483648=sgd n2 24:=by
  have e:two (24-1)=8388608:=by decide
  rw[e] at ao;omega
 generalize aY:sgd n2 24=q at *;have bx:IntKind.i32.wrap q=q:=(At q).trans aZ;have ak:Byt (tkL L3 4):=aj.drop _;generalize aU:num (tkB L3 4)=n3 at *;generalize aF:tkE L3 4 E3=E4 at *;generalize aM:tkL L3 4=L4 at *;have al:Byt (tkL L4 4):=ak.drop _;generalize aV:num (tkB L4 4)=n4 at *;generalize aG:tkE L4 4 E4=E5 at *;generalize aN:tkL L4 4=L5 at *;have aQ:Byt (tkL L5 4):=al.drop _;generalize aW:num (tkB L5 4)=n5 at *;generalize aH:tkE L5 4 E5=E6 at *;generalize aO:tkL L5 4=L6 at *;generalize aX:num (tkB L6 4)=n6 at *;generalize aI:tkE L6 4 E6=E7 at *;generalize aP:tkL L6 4=L7 at *;clear ah ai U aj ak al aQ ao am
 go_enter func315,ntmps315
 go_wp2_with first | (go_at_call 157;((with_reducible refine(jD aa.rd).mono ?_);rintro e w10 ⟨rfl,bb,a0⟩;have G:=aa.step bb a0;rw[aJ,aC] at G;rw[aR];have ab:=G.store 0 (ω n0);have bi:=β0 G.b2;have bq:=yw G.b2 0)) | (go_at_call 155;(go_call jT ab.rd as e bA ⟨rfl,bc,aq⟩;have H:=ab.step bc aq;rw[aK,aD] at H;rw[aS];have ac:=H.store 1 (υ n1);have c1:=β1 H.b2;have br:=yw H.b2 1)) | (go_at_call 311;(go_call Je ac.rd as e bB ⟨rfl,bd,ar⟩;have I:=ac.step bd ar;rw[aL,aE] at I;rw[aT];have ad:=I.store 2 (χ q);have c2:=β2 I.b2;have bs:=yw I.b2 2)) | (go_at_call 317;(go_call U9 n2 24 ba ζ _ as e bE ⟨rfl,rfl⟩;rw[aY])) | (go_at_call 157;((with_reducible refine(jD ad.rd).mono ?_);rintro e w13 ⟨rfl,be,a3⟩;have J:=ad.step be a3;rw[aM,aF] at J;rw[aU];have ae:=J.store 3 (ω n3);have c3:=β3 J.b2;have bt:=yw J.b2 3)) | (go_at_call 157;((with_reducible refine(jD ae.rd).mono ?_);rintro e w14 ⟨rfl,bf,a4⟩;have N:=ae.step bf a4;rw[aN,aG] at N;rw[aV];have af:=N.store 4 (ω n4);have c4:=β4 N.b2;have bu:=yw N.b2 4)) | (go_at_call 157;((with_reducible refine(jD af.rd).mono ?_);rintro e bC ⟨rfl,bg,a5⟩;have O:=af.step bg a5;rw[aO,aH] at O;rw[aW];have ag:=O.store 5 (ω n5);have c5:=β5 O.b2;have bv:=yw O.b2 5)) | (go_at_call 157;((with_reducible refine(jD ag.rd).mono ?_);rintro e bD ⟨rfl,bh,au⟩;have d:=ag.step bh au;rw[aP,aI] at d;rw[aX];have ap:=d.store 6 (ω n6);have bj:=β6 d.b2;have bw:=yw d.b2 6;have bk:=β0 d.b2;have bl:=β1 d.b2;have bm:=β2 d.b2;have bn:=β3 d.b2;have bo:=β4 d.b2;have bp:=β5 d.b2;have av:=β0 d.b1;have z0:=yw d.b1 0;have aw:=β1 d.b1;have bF:=yw d.b1 1;have ax:=β2 d.b1;have bG:=yw d.b1 2;have ay:=β3 d.b1;have z3:=yw d.b1 3;have az:=β4 d.b1;have z4:=yw d.b1 4;have aA:=β5 d.b1;have z5:=yw d.b1 5;have aB:=β6 d.b1;have bH:=yw d.b1 6))
 (refine bodyPost_ret (v:= θ #[ω n0,υ n1,χ q,ω n3,ω n4,ω n5,ω n6]) ?rr2 rfl ?_;(case rr2=>(simp[results,results315,go_sem,av,aw,ax,ay,az,aA,aB])))
 have Z:=(((((((ap.fill 0 (ω n0)).fill 1 (υ n1)).fill 2 (χ q)).fill 3 (ω n3)).fill 4 (ω n4)).fill 5 (ω n5)).fill 6 (ω n6));exact⟨by rw[Y.o],by rw[Y.o];exact Z.rd.mono λg h=>h.1,Z.away⟩
def Yv {l:List Blk} (h:SlP 7 Yj w v l) (J: ∀b,v.ownBlock=ϊ b-> ¬S b) (a:jt S w w'):SlP 7 Yj w' v l:=by
 obtain⟨aa,cap,rfl,G,H,I⟩:=h;refine⟨aa,cap,rfl,G,λi hi=> ?_,I⟩;obtain⟨b,off,cs,rfl,d,U,N,Y⟩:=H i hi;exact⟨b,off,cs,rfl,ϗ d a.size,U,λj O=>by rw[a.cells b _ d (J b rfl)];exact N j O,Y⟩
def JD (h:qu w R s.1 s.2 C):
  Calls prog 162 #[γ R] w λd w'=>d= .returned (ι (wM s))/\w'=w:=yT h
structure RpJ (w0 w:World) (R B5:Nat) (C:Nat->Prop) (o0 o1:Obj) (xs:List Value) (v:Value) (bl:List Blk) (s:RdS):Prop where
 rd:qu w R s.1 s.2 C
 b0:w.heap[w0.heap.size]? =ϊ o0
 b1:w.heap[w0.heap.size+1]? =ϊ o1
 b5:w.heap[B5]? =ϊ (.cells (xs++[v]).toArray 143 (0,0))
 row:je 7 Yj (λb=>b=R∨b=B5) w (B5+1) 354 v bl
 more:ql w0 w
 h1:w0.heap.size+1<R
 h2:R<B5
 hC: ∀g,C g->w0.heap.size+1<g/\g<B5
def RpJ.new {d w4 w5:World} {G H:Obj} (xs:List Value) (cs:Array Value) (O:cs=(xs++[δ ϋ 0 0]).toArray) (J:w4.heap[w.heap.size]? =ϊ G) (N:w4.heap[w.heap.size+1]? =ϊ H) (U:qu w5 R s.1 s.2 (λg=>d.heap.size<=g/\g<w4.heap.size)) (a5:jt (λb=>b=R) w4 w5) (I:ql w w4) (ac:w.heap.size+2<=d.heap.size) (aa:d.heap.size<=R) (ab:R<w4.heap.size):
  RpJ w (w5.alloc (.cells cs 143)) R w5.heap.size (λg=>d.heap.size<=g/\g<w4.heap.size) G H xs (δ ϋ 0 0) [] s:=by
 subst O;have Y:=a5.size;exact⟨U.more X6,qs (a5.blk J τ) _,qs (a5.blk N τ) _,qj w5 _,je.nil _ _ _ _ _ _,(Jv a5 I τ).al _,τ,τ,λg h=>⟨τ,τ⟩⟩
def RpJ.read {J:World} {d:Nat} {H I:Obj} {G:List Blk} (h:RpJ J w R d C H I xs v G s) (r:qu w' R s'.1 s'.2 C) (a:jt (λb=>b=R) w w'):RpJ J w' R d C H I xs v G s':=by
 have h1:=h.h1;have h2:=h.h2;exact⟨r,a.blk h.b0 τ,a.blk h.b1 τ,a.blk h.b5 τ,h.row.step (a.mono λk N=>ϑ N),Jv a h.more τ,h1,h2,h.hC⟩
def RpJ.on {J:World} {d:Nat} {H I:Obj} {G:List Blk} (h:RpJ J w R d C H I xs v G s) (m:ql w w'):RpJ J w' R d C H I xs v G s:=
 ⟨h.rd.more m,qq m h.b0,qq m h.b1,qq m h.b5,h.row.on m,h.more.trans m,h.h1,h.h2,h.hC⟩
def RpJ.put {I:World} {d:Nat} {U Y:Obj} {aa O:List Blk} (h:RpJ I w R d C U Y xs v aa s) (ab:xs.length=7)
  (ad:je 7 Yj (λb=>b=R∨b=d) w' (d+1) 354 v' O) (H:w.grownBy w' v.ownBlock):RpJ I (w'.setCell ⟨d,7,ϋ⟩ v') R d C U Y xs v' O s:=by
 have h1:=h.h1;have h2:=h.h2;have G: ∀g,v.ownBlock=ϊ g->d+1<=g:=λg e=>h.row.ge e
 have a:jt (λb=>v.ownBlock=ϊ b) w w':=⟨H.os,H.tape,H.output,H.size,λk N ae=>H.block k N (λe=>ae e.symm)⟩;have a5:jt (λb=>b=d) w' (w'.setCell ⟨d,7,ϋ⟩ v'):=(jt.refl (λb=>b=d) w').set (p:=⟨d,7,ϋ⟩) rfl v';have ac:ql I w':=jt.to_more h.more a (λk e=>by have:=G k e;omega);refine⟨(h.rd.off a (λe=>by have:=G R e;omega) (λg J e=>by have:=G g e;have:=(h.hC g J).2;omega)).off a5 τ (λg J e=>by have:=(h.hC g J).2;omega),a5.blk (a.blk h.b0 (λe=>by have:=G _ e;omega)) τ,a5.blk (a.blk h.b1 (λe=>by have:=G _ e;omega)) τ,qB (qp (a.blk h.b5 (λe=>by have:=G _ e;omega)) 7 v') ?_,ad.step (a5.mono λk N=>ϕ N),ac.st (by show I.heap.size<=d;omega) v',h1,h2,h.hC⟩
 match xs,ab with
 | [x0,x1,x2,x3,x4,x5,x6],_=>rfl
def RpJ.set {G:World} {d:Nat} {I J:Obj} {H:List Blk} (h:RpJ G w R d C I J xs v H s) (i:Nat) (hi:i<xs.length) (x:Value):RpJ G (w.setCell ⟨d,i,ϋ⟩ x) R d C I J (xs.set i x) v H s:=by
 have h1:=h.h1;have h2:=h.h2;have a5:jt (λb=>b=d) w (w.setCell ⟨d,i,ϋ⟩ x):=(jt.refl (λb=>b=d) w).set (p:=⟨d,i,ϋ⟩) rfl x;refine⟨h.rd.off a5 τ (λg N e=>by have:=(h.hC g N).2;omega),a5.blk h.b0 τ,a5.blk h.b1 τ,qB (qp h.b5 i x) ?_,h.row.step (a5.mono λk O=>ϕ O),h.more.st (by show G.heap.size<=d;omega) x,h1,h2,h.hC⟩;simp[List.setIfInBounds_toArray,List.set_append,hi]
def YY (n:Nat) (s:RdS) (acc:List Blk):acc++(js (n+1) s).1=(acc++[(qM s).1])++(js n (qM s).2).1/\(js (n+1) s).2=(js n (qM s).2).2:=by
 constructor
 ·show acc++((qM s).1::(js n (qM s).2).1)=_;simp
 ·rfl
def Ux (h:Byt s.1):QS (qM s).1:=by
 have d:=jK h 4;have N:=jK d 1;have G:=jK N 3;have H:=jK G 4;have I:=jK H 4;have O:=jK I 4;have U:=zv (tkB (tkS s 4).1 1) 1 (jL d 1) (zh _ 1 ζ) ζ;have Y:=KR (num (tkB (tkS (tkS s 4) 1).1 3)) 24 ζ ζ;have J:two (24-1)=8388608:=by decide
 rw[J] at Y;exact⟨kp h,⟨U.1,by show num (tkB (tkS s 4).1 1)<=255;omega⟩,⟨by show -2147483648<=sgd _ 24;omega,by show sgd _ 24<=2147483647;omega⟩,kp G,kp H,kp I,kp O⟩
def Bf {c:qQ} (O:xk c):Zx (qG c).1:=by
 by_cases h:(qG c).2=0
 ·exact(YP (r:=(qG c).1) O (by rw[<-h])).2.1
 ·have:(qG c).1=Qh:=by
   unfold qG at h ⊢;have H: ∀r s,¬(yZ r s).2=0->(yZ r s).1=Qh:=by
    intro r s G;unfold yZ at G ⊢;split
    ·rename_i y;rw[ϓ y] at G;exact ϧ rfl G
    ·rfl
   split
   ·rfl
   ·rename_i I;rw[Ϗ I] at h;split
    ·rename_i d;rw[ϓ d] at h;exact H _ _ h
    ·rename_i d;rw[Ϗ d] at h;split
     ·rename_i J;rw[ϓ J] at h;exact H _ _ h
     ·rfl
  rw[this];exact⟨ζ,WY,λb N=>by cases N⟩
def Du (k t:Int) (B:List Int) (H:Option Addr) (G:Nat) (aa:Hid (SlI .u8 w (δ H B.length G) B)) (an:Hid (Byt B)) (ak:B.length<=1000000) (U:Hid (jx (k,t,B,())=ύ)):
  Calls prog 306 #[θ #[υ k,υ t,δ H B.length G]] w λe w'=>e= .returned (.tuple #[Γd,ι 1])/\ql w w':=by
 have O:ql w ((w.alloc (.cells #[υ k,υ t,δ H B.length G] 145)).alloc (.cells Γd 143)):=X6.al _;have J:((w.alloc (.cells #[υ k,υ t,δ H B.length G] 145)).alloc (.cells Γd 143)).heap[w.heap.size]? =ϊ (.cells #[υ k,υ t,δ H B.length G] 145):=qs (qj w _) _;have N:((w.alloc (.cells #[υ k,υ t,δ H B.length G] 145)).alloc (.cells Γd 143)).heap[w.heap.size+1]? =ϊ (.cells Γd 143):=qC η
 go_enter func306,ntmps306
 go_wp2_with (go_at_call 142;refine(xR (k,t,B,()) (aa.o.keep O) ak).mono ?_;rintro e am ⟨rfl,I⟩;rw[U.o];have Y:=O.trans I;have aj:=qq I J;have d:=qq I N;have ao:w.heap.size+2<=am.heap.size:=ϙ η I.size;have ab:=β0 d;have z0:=yw d 0;have ac:=β1 d;have ap:=yw d 1;have ad:=β2 d;have aq:=yw d 2;have ae:=β3 d;have z3:=yw d 3;have af:=β4 d;have z4:=yw d 4;have ag:=β5 d;have z5:=yw d 5;have ah:=β6 d;have ar:=yw d 6;have ai:=β7 d;have au:=yw d 7;clear aj d J N)
 (refine bodyPost_ret (v:= .tuple #[Γd,ι 1]) ?rr1 rfl ?_;(case rr1=>(simp[results,results306,go_sem,ab,ac,ad,ae,af,ag,ah,ai])))
 exact⟨rfl,((((((((Y.st η _).st η _).st η _).st η _).st η _).st η _).st η _).st η _)⟩
def Y8 (k t:Int) (B:List Int) (H:Option Addr) (G:Nat) (U:Hid (SlI .u8 w (δ H B.length G) B)) (ad:Hid (Byt B)) (aa:B.length<=1000000) (ae:Hid (jx (k,t,B,())=ό)) (aq: ¬t=200) (ar: ¬t=201):
  Calls prog 306 #[θ #[υ k,υ t,δ H B.length G]] w λe w'=>e= .returned (.tuple #[Γd,ι 5])/\ql w w':=by
 have ab:ql w ((w.alloc (.cells #[υ k,υ t,δ H B.length G] 145)).alloc (.cells Γd 143)):=X6.al _;have av:((w.alloc (.cells #[υ k,υ t,δ H B.length G] 145)).alloc (.cells Γd 143)).heap[w.heap.size]? =ϊ (.cells #[υ k,υ t,δ H B.length G] 145):=qs (qj w _) _;have ay:((w.alloc (.cells #[υ k,υ t,δ H B.length G] 145)).alloc (.cells Γd 143)).heap[w.heap.size+1]? =ϊ (.cells Γd 143):=qC η;have aG:(t==200)=ύ:=by simpa using aq
 have aH:(t==201)=ύ:=by simpa using ar
 go_enter func306,ntmps306
 go_wp2_with first | (go_at_call 142;refine(xR (k,t,B,()) (U.o.keep ab) aa).mono ?_;rintro e N ⟨rfl,I⟩;rw[ae.o];have O:=ab.trans I;have Y:=qq I av;have aw:=qq I ay;have aB:w.heap.size+2<=N.heap.size:=ϙ η I.size;have aD:=β2 Y) | (go_at_call 154;(go_call NV _ B N (U.o.keep O) ad.o aa as e w4 ⟨R,rfl,az,ac,J⟩;have au:=qq J Y;have ax:=qq J aw;have af:=O.trans J;have aA:R<w4.heap.size:=by (obtain⟨v,ap,_⟩:=ac.blk;exact qn ap))) | (go_at_call 157;(go_call jD ac as e w5 ⟨rfl,aC,a5⟩;have d:RpJ w (w5.alloc (.cells #[μ ύ,ω (num (tkB B 4)),ω 0,ω 0,ω 0,ω 0,ω 0,()] 143)) R w5.heap.size (λg=>N.heap.size<=g/\g<w4.heap.size) (.cells #[υ k,υ t,δ H B.length G] 145) (.cells Γd 143) [μ ύ,ω (num (tkB B 4)),ω 0,ω 0,ω 0,ω 0,ω 0] (δ ϋ 0 0) [] (tkL B 4,tkE B 4 0):=RpJ.new _ _ rfl au ax aC a5 af aB az aA;have aF:=β1 d.b0;have aE:=β0 d.b0;have ag:=β0 d.b1;have z0:=yw d.b1 0;have ah:=β1 d.b1;have aI:=yw d.b1 1;have ai:=β2 d.b1;have aJ:=yw d.b1 2;have aj:=β3 d.b1;have z3:=yw d.b1 3;have ak:=β4 d.b1;have z4:=yw d.b1 4;have am:=β5 d.b1;have z5:=yw d.b1 5;have an:=β6 d.b1;have aK:=yw d.b1 6;have ao:=β7 d.b1;have aL:=yw d.b1 7))
 (refine bodyPost_ret (v:= .tuple #[Γd,ι 5]) ?rr2 rfl ?_;(case rr2=>(simp[results,results306,go_sem,ag,ah,ai,aj,ak,am,an,ao])))
 exact⟨rfl,((((((((d.more.st η _).st η _).st η _).st η _).st η _).st η _).st η _).st η _)⟩
def XL (G:Nat) (t:Int) (snd:Bool) (inf:Inf) (s0:RdS) (B:List Int) (U:Option Addr) (O:Nat) (D:Rep×Int) (aM:Hid (SlI .u8 w (δ U B.length O) B)) (bu:Hid (Byt B)) (bi:B.length<=1000000) (cb:G<=31) (aG:Hid (jx ((G:Int),t,B,())=ό))
  (bj:t=if snd then 200 else 201) (bf:(if snd then jA (tkL B 4,tkE B 4 0) else (Jj,(tkL B 4,tkE B 4 0)))=(inf,s0)) (bv:Hid (yZ ⟨snd,num (tkB B 4),inf,(js G s0).1⟩ (js G s0).2=D)):
  Calls prog 306 #[θ #[υ (G:Int),υ t,δ U B.length O]] w λe w'=>(∃vb,e= .returned (.tuple #[θ #[μ D.1.snd,ω D.1.src,ω D.1.inf.sec,ω D.1.inf.frac,ω D.1.inf.stamp,ω D.1.inf.pkts,ω D.1.inf.octs,vb],ι D.2])/\SlP 7 Yj w' vb D.1.bl/\jX w vb)/\ql w w':=by
 obtain⟨bN,hi,bK,bL,bM⟩:=info_parts (P:=prog) (e:=354) (z:= Γe) (size:=7) (bytes:=28) ξ;obtain⟨k,av⟩: ∃k:Int,k=(G:Int):=⟨_,rfl⟩;rw[<-av] at aG ⊢;have aq:=κ av;clear av;have aB:ql w ((w.alloc (.cells #[υ k,υ t,δ U B.length O] 145)).alloc (.cells Γd 143)):=X6.al _;have bb:((w.alloc (.cells #[υ k,υ t,δ U B.length O] 145)).alloc (.cells Γd 143)).heap[w.heap.size]? =ϊ (.cells #[υ k,υ t,δ U B.length O] 145):=qs (qj w _) _;have bd:((w.alloc (.cells #[υ k,υ t,δ U B.length O] 145)).alloc (.cells Γd 143)).heap[w.heap.size+1]? =ϊ (.cells Γd 143):=qC η;have aH:=κ bj;have aD:=κ bf;clear bj bf
 go_enter func306,ntmps306
 go_upto_block 2 with first | (go_at_call 142;refine(xR (k,t,B,()) (aM.o.keep aB) bi).mono ?_;rintro e ag ⟨rfl,am⟩;rw[aG.o];have aI:=aB.trans am;have aZ:=qq am bb;have bE:=qq am bd;have bk:w.heap.size+2<=ag.heap.size:=ϙ η am.size;have bC:=β2 aZ) | (go_at_call 154;(go_call NV _ B ag (aM.o.keep aI) bu.o bi as e w4 ⟨R,rfl,bg,bn,aC⟩;have ba:=qq aC aZ;have bc:=qq aC bE;have aJ:=aI.trans aC;have bh:R<w4.heap.size:=by (obtain⟨v,h1,_⟩:=bn.blk;exact qn h1))) | (go_at_call 157;(go_call jD bn as e w5 ⟨rfl,bo,a5⟩;have af:RpJ w (w5.alloc (.cells #[μ ύ,ω (num (tkB B 4)),ω 0,ω 0,ω 0,ω 0,ω 0,()] 143)) R w5.heap.size (λg=>ag.heap.size<=g/\g<w4.heap.size) (.cells #[υ k,υ t,δ U B.length O] 145) (.cells Γd 143) [μ ύ,ω (num (tkB B 4)),ω 0,ω 0,ω 0,ω 0,ω 0] (δ ϋ 0 0) [] (tkL B 4,tkE B 4 0):=RpJ.new _ _ rfl ba bc bo a5 aJ bk bg bh;have au:=β1 af.b0))
 have ap:=κ af;clear af au
 go_cut [] from 19 to 51 (λbR=>RpJ w bR R w5.heap.size (λg=>ag.heap.size<=g/\g<w4.heap.size) (.cells #[υ k,υ t,δ U B.length O] 145) (.cells Γd 143) [μ snd,ω (num (tkB B 4)),ω inf.sec,ω inf.frac,ω inf.stamp,ω inf.pkts,ω inf.octs] (δ ϋ 0 0) [] s0)
 case first=>
  cases snd
  ·have h1:=aH.o;have h2:=aD.o;simp only[Ξ,D4,C8] at h1 h2;obtain⟨rfl,rfl⟩:=h2;subst h1;have au:=β1 ap.o.b0;go_wp2;go_meet;exact ap.o
  ·have h1:=aH.o;have h2:=aD.o;simp only[C1] at h1 h2;subst h1;have ah:inf=(jA (tkL B 4,tkE B 4 0)).1:=by rw[h2]
   have bD:s0=(jA (tkL B 4,tkE B 4 0)).2:=by rw[h2]
   subst ah bD;clear h2;have au:=β1 ap.o.b0;have af:RpJ w (w5.alloc (.cells #[μ ό,ω (num (tkB B 4)),ω 0,ω 0,ω 0,ω 0,ω 0,()] 143)) R w5.heap.size (λg=>ag.heap.size<=g/\g<w4.heap.size) (.cells #[υ k,υ 200,δ U B.length O] 145) (.cells Γd 143) [μ ό,ω (num (tkB B 4)),ω 0,ω 0,ω 0,ω 0,ω 0] (δ ϋ 0 0) [] (tkL B 4,tkE B 4 0):=RpJ.new _ _ rfl ba bc bo a5 aJ bk bg bh
   go_wp2_with ((go_at_call 314;(go_call Kx (s:=(tkL B 4,tkE B 4 0)) af.rd as e w7 ⟨rfl,bp,aO⟩;have J:=af.read bp aO;have cl:=β2 J.b5;have ct:=yw J.b5 2;have cm:=β3 J.b5;have cu:=yw J.b5 3;have cn:=β4 J.b5;have cv:=yw J.b5 4;have co:=β5 J.b5;have cw:=yw J.b5 5;have cp:=β6 J.b5;have cx:=yw J.b5 6;have bz:=(((((J.set 2 η (ω (jA (tkL B 4,tkE B 4 0)).1.sec)).set 3 η (ω (jA (tkL B 4,tkE B 4 0)).1.frac)).set 4 η (ω (jA (tkL B 4,tkE B 4 0)).1.stamp)).set 5 η (ω (jA (tkL B 4,tkE B 4 0)).1.pkts)).set 6 η (ω (jA (tkL B 4,tkE B 4 0)).1.octs));clear bp aO)))
   go_meet;exact bz
 case rest=>
 have ar:=hcut;have bW:=β0 ar.b0;go_wp2;clear bC aB bb bd;have aE:=κ ar;clear ar;obtain⟨aL,bX⟩: ∃aL,aL=R:=⟨_,rfl⟩;obtain⟨H,aj⟩: ∃H,H=w5.heap.size:=⟨_,rfl⟩;obtain⟨C,be⟩: ∃C:Nat->Prop,C=λg=>ag.heap.size<=g/\g<w4.heap.size:=⟨_,rfl⟩
 rw[<-aj,<-be] at aE;have bU:=κ (P4 aj aq.o);rw[<-aj];clear aj be;have bw:=bv
 go_loopw [29] (λaA wr=> ∃j:Nat,j<=G/\aA= υ (j:Int)/\(∃v bl s,RpJ w wr R H C (.cells #[υ k,υ t,δ U B.length O] 145) (.cells Γd 143) [μ snd,ω (num (tkB B 4)),ω inf.sec,ω inf.frac,ω inf.stamp,ω inf.pkts,ω inf.octs] v bl s/\bl.length=j/\(js G s0).1=bl++(js (G-j) s).1/\(js G s0).2=(js (G-j) s).2)) (λaA _=>G-(intOf aA).toNat)
 case atStart=>exact⟨0,τ,rfl,⟨_,_,_,aE.o,rfl,η,rfl⟩⟩
 case round=>
  obtain⟨j,bZ,rfl,⟨v,bl,s,d,bm,ac,ad⟩⟩:=hrel;have Y:=κ d;have aF:=κ bm;clear d bm;by_cases hlt:j<G
  ·have bG:(j:Int)<k:=by rw[aq.o];omega
   have ah:G-j=(G-(j+1))+1:=by omega
   have ax:=YY (G-(j+1)) s bl;rw[ah,ax.1] at ac;rw[ah,ax.2] at ad;have bs:=κ ac;have bt:=κ ad;clear ac ad ax ah;have ca:((j:Int)+1)%256=(j:Int)+1:=by omega
   have bI: ¬(H=R∨v.ownBlock=ϊ H):=by
    rintro(e | e)
    ·have:=Y.o.h2;omega
    ·have:=Y.o.row.ge e;omega
   have bT:=λ(x:qz (λb=>b=R∨v.ownBlock=ϊ b) wr)=>β7 (x.h.blk Y.o.b5 bI)
   go_wp2_with fail
   refine QN (λb=>b=R∨v.ownBlock=ϊ b) wr 7 8 [3,4,5,7] ?_
   refine Qs3 ?_
   (refine Ql ?_;intro K I)
   refine(Kz (s:=s) (Y.o.rd.more (ql.drewN _ 1))).mono ?_;rintro e w8 ⟨rfl,bP,aP⟩;have aQ:jt (λb=>b=R∨v.ownBlock=ϊ b) wr w8:=((jt.refl _ _).drewN _).trans (aP.mono λb h=>ϑ h);refine⟨_,rfl,qi aQ,I _ _ ?_⟩;clear I K
   (refine Ql ?_;intro K I)
   have a9:=aQ.more (ql.alloc w8 (.cells #[ω (qM s).1.src,υ (qM s).1.part,χ (qM s).1.miss,ω (qM s).1.high,ω (qM s).1.jit,ω (qM s).1.last,ω (qM s).1.dly] 354));refine⟨qi a9,I _ _ ?_⟩;clear I K;have bA:=(Y.o.on (ql.drewN wr 1)).read bP aP;have N:=bA.on (ql.alloc w8 (.cells #[ω (qM s).1.src,υ (qM s).1.part,χ (qM s).1.miss,ω (qM s).1.high,ω (qM s).1.jit,ω (qM s).1.last,ω (qM s).1.dly] 354));have bO:=Ux (s:=s) Y.o.rd.byt
   (refine jR rfl rfl ?_;intro K I)
   refine zK (.tmp 32) (.tmp 35) 141 rfl (H+1) 354 bN (Γe) 7 28 underlying141 hi bK bL bM rfl ζ v bl rfl N.row w8.heap.size (qM s).1.cells (qM s).1 rfl rfl (zS rfl) (by simp[Blk.cells,Value.oneCell']) (λ_ _=>⟨rfl,bO⟩) (λb ak=>by have:=N.h2;have:=qn N.b5;omega) ζ (by have:=aF.o;omega) (by have:=qn N.b5;omega) ?_;intro cr w10 aw aa bF;have aN:jt (λb=>b=R∨v.ownBlock=ϊ b) wr w10:=a9.trans ⟨aa.os,aa.tape,aa.output,aa.size,λk bH bJ=>aa.block k bH (λe=>bJ (ϕ e.symm))⟩;have bx:=κ (N.put (by rfl) aw aa);have cq:w10.cell? ⟨H,7,ϋ⟩=ϊ v:=by
    have:w10.heap[H]? =_:=(aa.block H (qn N.b5) (λe=>by have:=N.row.ge e.symm;omega)).trans N.b5;exact qa this 7 rfl
   have bS:w10.frozen? ⟨H,7,ϋ⟩=ύ:=by
    have:w10.heap[H]? =_:=(aa.block H (qn N.b5) (λe=>by have:=N.row.ge e.symm;omega)).trans N.b5;exact yw this 7
   obtain⟨cd,cc,bV,rfl,ay,az⟩:=aw.shape;clear ay az aw aa bF;refine⟨qi aN,I _ _ ?_⟩;clear I K;go_simp
   iterate 1 (refine qE rfl rfl (qi aN) ?_;intro K I;go_big_quiet_op;go_big_quiet_on)
   (refine Qe ?_;intro K I)
   refine I _ _ ?_;clear I K;refine qA ?_;go_wp2;go_roundw
   case rel=>exact⟨j+1,τ,by go_num,⟨_,_,_,bx.o,by (have:=aF.o;simp;omega),bs.o,bt.o⟩⟩
   case measure=>simp[intOf];omega
  ·obtain rfl:j=G:=by omega
   rw[P2] at ac ad;have ac:(js j s0).1=bl:=by rw[ac];exact Θ _
   have ad:(js j s0).2=s:=ad;have ab:=bw.o;rw[ac,ad] at ab;unfold yZ at ab;have d:=Y.o;have bG: ¬(j:Int)<k:=by rw[aq.o];omega
   obtain⟨ao,an,ai,rfl,ay,az⟩:=d.row.shape;have bB:=κ (d.row.sl ζ);have bq:Hid (∀b,(δ ao an ai).ownBlock=ϊ b-> ¬b=w.heap.size+1):=κ (λb ak e=>by have:=d.row.ge ak;have:=d.h1;have:=d.h2;omega);have br:Hid (jX w (δ ao an ai)):=κ (λb ak=>by have:=d.row.ge ak;have:=d.h1;have:=d.h2;omega);have aK:=κ d.more;clear ac ad ay az;have ce:=β0 d.b5;have cf:=β1 d.b5;have p2:=β2 d.b5;have cg:=β3 d.b5;have ch:=β4 d.b5;have ci:=β5 d.b5;have cj:=β6 d.b5;have ck:=β7 d.b5;have aR:=β0 d.b1;have z0:=yw d.b1 0;have aS:=β1 d.b1;have cy:=yw d.b1 1;have aT:=β2 d.b1;have cz:=yw d.b1 2;have aU:=β3 d.b1;have z3:=yw d.b1 3;have aV:=β4 d.b1;have z4:=yw d.b1 4;have aW:=β5 d.b1;have z5:=yw d.b1 5;have aX:=β6 d.b1;have cA:=yw d.b1 6;have aY:=β7 d.b1;have bS:=yw d.b1 7;by_cases he:wM s=0
   ·rw[ϓ he] at ab;have ae:=κ ab;clear ab d
    go_wp2_with (go_at_call 162;(go_call JD (s:=s) Y.o.rd as e bQ ⟨rfl,rfl⟩;rw[he]))
    (refine bodyPost_ret (v:= .tuple #[θ #[μ snd,ω (num (tkB B 4)),ω inf.sec,ω inf.frac,ω inf.stamp,ω inf.pkts,ω inf.octs,δ ao an ai],ι 0]) ?rr3 rfl ?_;(case rr3=>(simp[results,results306,go_sem,aR,aS,aT,aU,aV,aW,aX,aY])))
    refine⟨⟨δ ao an ai,by first | (rw[<-ae.o];done) | (rw[<-ae.o];rfl), ?_⟩,((((((((aK.o.st η _).st η _).st η _).st η _).st η _).st η _).st η _).st η _)⟩;rw[<-ae.o];exact⟨Yv bB.o bq.o ((((((((jt.refl (λb=>b=w.heap.size+1) _).set rfl _).set rfl _).set rfl _).set rfl _).set rfl _).set rfl _).set rfl _ |>.set rfl _),br.o⟩
   ·rw[Ϗ he] at ab;have ae:=κ ab;have bY:(wM s != 0)=ό:=by simpa using he
    clear ab d
    go_wp2_with (go_at_call 162;(go_call JD (s:=s) Y.o.rd as e bQ ⟨rfl,rfl⟩))
    (refine bodyPost_ret (v:= .tuple #[Γd,ι (wM s)]) ?rr4 rfl ?_;(case rr4=>(simp[results,results306,go_sem,aR,aS,aT,aU,aV,aW,aX,aY])))
    refine⟨⟨δ ϋ 0 0,by first | (rw[<-ae.o];done) | (rw[<-ae.o];rfl), ?_⟩,((((((((aK.o.st η _).st η _).st η _).st η _).st η _).st η _).st η _).st η _)⟩;rw[<-ae.o];exact⟨SlP.nil _ _ _,jX.nil w⟩
def We (c:qQ) (Y:SlI .u8 w vb c.2.2.1) (aa:xk c) (J:c.2.2.1.length<=1000000):
  Calls prog 306 #[θ #[υ c.1,υ c.2.1,vb]] w λe w'=>(∃vb,e= .returned (.tuple #[θ #[μ (qG c).1.snd,ω (qG c).1.src,ω (qG c).1.inf.sec,ω (qG c).1.inf.frac,ω (qG c).1.inf.stamp,ω (qG c).1.inf.pkts,ω (qG c).1.inf.octs,vb],ι (qG c).2])/\SlP 7 Yj w' vb (qG c).1.bl/\jX w vb)/\ql w w':=by
 obtain⟨k,t,B,⟨⟩⟩:=c;obtain⟨⟨ac,ad⟩,_,I⟩:=aa;simp only at *;have G:=κ Y;obtain⟨N,H,rfl,_⟩:=Y;cases hr:jx (k,t,B,()) with
 | false=>
  have e:qG (k,t,B,())=(Qh,1):=by unfold qG;rw[ϓ hr]
  rw[e];exact(Du k t B N H G (κ I) J (κ hr)).mono λe w' ⟨O,U⟩=>⟨⟨_,O,SlP.nil _ _ _,jX.nil w⟩,U⟩
 | true=>
  have ab:=((zO _).1 hr).1;simp only at ab;obtain⟨d,rfl⟩: ∃n:Nat,k=n:=⟨k.toNat,τ⟩;by_cases h200:t=200
  ·subst h200;have e:qG ((d:Int),200,B,())=yZ ⟨ό,num (tkB B 4),(jA (tkL B 4,tkE B 4 0)).1,(js d (jA (tkL B 4,tkE B 4 0)).2).1⟩ (js d (jA (tkL B 4,tkE B 4 0)).2).2:=by
    unfold qG;rw[Ϗ (by rw[hr];simp),ϓ rfl];rfl
   exact XL d 200 ό (jA (tkL B 4,tkE B 4 0)).1 (jA (tkL B 4,tkE B 4 0)).2 B N H _ G (κ I) J τ (κ hr) rfl rfl (κ e.symm)
  ·by_cases h201:t=201
   ·subst h201;have e:qG ((d:Int),201,B,())=yZ ⟨ύ,num (tkB B 4),Jj,(js d (tkL B 4,tkE B 4 0)).1⟩ (js d (tkL B 4,tkE B 4 0)).2:=by
     unfold qG;rw[Ϗ (by rw[hr];simp),Ϗ (show ¬(201:Int)=200 by decide),ϓ rfl];rfl
    exact XL d 201 ύ Jj (tkL B 4,tkE B 4 0) B N H _ G (κ I) J τ (κ hr) rfl rfl (κ e.symm)
   ·have e:qG ((d:Int),t,B,())=(Qh,5):=by unfold qG;rw[Ϗ (by rw[hr];simp),Ϗ h200,Ϗ h201]
    rw[e];exact(Y8 (d:Int) t B N H G (κ I) J (κ hr) h200 h201).mono λe w' ⟨O,U⟩=>⟨⟨_,O,SlP.nil _ _ _,jX.nil w⟩,U⟩
def jt.cons {b:Nat} (h:jt (λk=>k=b) w w') (i:Nat) (v:Value):jt (λk=>k=b) w (w'.setCell ⟨b,i,ϋ⟩ v):=h.set (p:=⟨b,i,ϋ⟩) rfl v
end Go.Proofs.YtmgaiiffmheabaaGreatDoor
