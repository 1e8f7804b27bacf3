/- Contracts of the functions that the law reaches, and plain laws; no conditions but those written at each. -/
import Derived.Test.YtlmllmonabafjaaGreatDoorMg6
import Derived.Deep.AppendLies
import Derived.Shelf.RegionOpenPlain
import Derived.Deep.RegionLaw
import Derived.Laws.IdiomCopy
import Derived.Lib.AppendZeros
import Derived.Lib.AppendZerosOnto
import Derived.Lib.Overlaps
namespace Go.Proofs.YtlmllmonabafjaaGreatDoor
open Go.Value renaming bool->μ,slice->δ,pointer->π,agg->θ
open Go.IntKind renaming i64->ι,u8->υ,u16->φ,u32->ω,i32->χ,u64->ψ
open _root_.Go.Proofs.Tryz
set_option linter.unusedSimpArgs false
set_option maxHeartbeats 8000000
set_option linter.unusedVariables false
open Go.RowKit
set_option maxRecDepth 100000
theorem Ya (n:Int) (w:World):
  Calls prog 237 #[ι n] w λe w'=>e= .returned (θ #[ι n,ψ 1])/\qa w w':=by
 go_enter func237,ntmps237
 go_wp2;exact bodyPost_ret (v:= θ #[ι n,ψ 1]) (by simp[results,results237,go_sem]) rfl ⟨rfl,(qa.refl _).al _⟩
theorem CJ (g b n:Int) (H: -2305843009213693952<=g/\g<=2305843009213693952) (I: -2305843009213693952<=n/\n<=2305843009213693952) (O:63<n-g) (w:World):
  Calls prog 236 #[θ #[ι g,ψ b],ι n] w λe w'=>e= .returned (θ #[ι n,ψ 1])/\qa w w':=by
 obtain⟨J,N⟩:=H;obtain⟨Y,n2⟩:=I
 go_enter func236,ntmps236
 go_wp2_with (go_at_call 237;refine(Ya n _).mono ?_;rintro e w1 ⟨rfl,d⟩;obtain⟨G,U⟩:=d.rules)
 refine bodyPost_ret (v:= θ #[ι n,ψ 1]) (by simp[results,results236,go_sem,G]) rfl ⟨rfl, ?_⟩;exact((((qa.refl w).al _).al _ |>.trans d).st η _).st η _
theorem FQ (g b n:Int) (d: -2305843009213693952<=g/\g<=2305843009213693952) (G: -2305843009213693952<=n/\n<=2305843009213693952) (J:n-g<=63) (N:0<n-g) (w:World):
  Calls prog 236 #[θ #[ι g,ψ b],ι n] w λe w'=>e= .returned (θ #[ι n,ψ (bits .or .u64 (IntKind.u64.wrap (b* 2 ^ (n-g).toNat)) 1)])/\qa w w':=by
 obtain⟨H,I⟩:=d;obtain⟨O,n2⟩:=G
 go_enter func236,ntmps236
 go_wp2;refine bodyPost_ret (v:= θ #[ι n,ψ (bits .or .u64 (IntKind.u64.wrap (b* 2 ^ (n-g).toNat)) 1)]) (by simp[results,results236,go_sem]) rfl ⟨rfl, ?_⟩;exact((qa.refl w).al _).al _
theorem CI (g b n:Int) (d: -2305843009213693952<=g/\g<=2305843009213693952) (G: -2305843009213693952<=n/\n<=2305843009213693952) (J:n-g< -63) (w:World):
  Calls prog 236 #[θ #[ι g,ψ b],ι n] w λe w'=>e= .returned (θ #[ι g,ψ b])/\qa w w':=by
 obtain⟨H,I⟩:=d;obtain⟨N,n2⟩:=G
 go_enter func236,ntmps236
 go_wp2;refine bodyPost_ret (v:= θ #[ι g,ψ b]) (by simp[results,results236,go_sem]) rfl ⟨rfl, ?_⟩;exact((qa.refl w).al _).al _
theorem FR (g b n:Int) (I: -2305843009213693952<=g/\g<=2305843009213693952) (J: -2305843009213693952<=n/\n<=2305843009213693952) (G:U64 b) (aa:n-g<=0) (ab: -63<=n-g) (w:World):
  Calls prog 236 #[θ #[ι g,ψ b],ι n] w λe w'=>e= .returned (θ #[ι g,ψ (lay b (-(n-g)) 1 1)])/\qa w w':=by
 obtain⟨U,Y⟩:=I;obtain⟨ad,n2⟩:=J;have H:=κ G;clear G;have N: ∀x:qt (w.alloc (.cells #[ι g,ψ b] 233)),x.w'.cell? ⟨w.heap.size,0,none⟩=some (ι g):=λx=>x.new 0 rfl
 have O: ∀x:qt (w.alloc (.cells #[ι g,ψ b] 233)),x.w'.cell? ⟨w.heap.size,1,none⟩=some (ψ b):=λx=>x.new 1 rfl
 go_enter func236,ntmps236
 go_wp2_with fail
 refine Qn (w.alloc (.cells #[ι g,ψ b] 233)) 8 9 [6,8] ?_
 refine Qq6 ?_
 (refine Ql ?_;intro K d)
 refine(FV b 1 _ _ H.o ζ (by unfold I64;omega) ζ _).mono ?_;rintro e w2 ⟨rfl,ac,rfl⟩;refine⟨_,rfl,qk (((qa.alloc _ _).dr _).dr _),d _ _ ?_⟩;clear d K
 refine Qq1 ?_
 (refine Qe ?_;intro K d)
 refine d _ _ ?_;clear d K;refine qA ?_;go_wp2;refine bodyPost_ret (v:= θ #[ι g,ψ (lay b (-(n-g)) 1 1)]) (by simp[results,results236,go_sem]) rfl ⟨rfl, ?_⟩;exact(((((qa.refl w).al _).al _).dr _).st η _).st η _
def Mid (n:Int):Prop:= -2305843009213693952<=n/\n<=2305843009213693952
instance (n:Int):Decidable (Mid n):=by unfold Mid;infer_instance
theorem gS (g b n:Int) (d:Mid g) (G:Mid n) (H:U64 b) (w:World):
  Calls prog 236 #[θ #[ι g,ψ b],ι n] w λe w'=>e= .returned (θ #[ι (zt g b n).1,ψ (zt g b n).2])/\qa w w':=by
 by_cases h1:63<n-g
 ·rw[show zt g b n=(n,1) from by unfold zt;rw[if_pos h1]];exact CJ g b n d G h1 w
 ·by_cases h2:0<n-g
  ·rw[show zt g b n=(n,bits .or .u64 (IntKind.u64.wrap (b* 2 ^ (n-g).toNat)) 1) from by unfold zt;rw[if_neg h1,if_pos h2]];exact FQ g b n d G τ h2 w
  ·by_cases h3: -63<=n-g
   ·rw[show zt g b n=(g,lay b (-(n-g)) 1 1) from by unfold zt;rw[if_neg h1,if_neg h2,if_pos h3]];exact FR g b n d G H τ h3 w
   ·rw[show zt g b n=(g,b) from by unfold zt;rw[if_neg h1,if_neg h2,if_neg h3]];exact CI g b n d G τ w
theorem FX (g b n:Int) (Y:Mid g) (aa:Mid n) (O:U64 b) (w:World):
  Calls prog 248 #[θ #[ι g,ψ b],ι n] w λe w'=>e= .returned (μ (yi g b n))/\qa w w':=by
 have I:=κ O;have J:=κ Y;have N:=κ aa;have U:U64 b:=O;clear O;obtain⟨ae,af⟩:=Y;obtain⟨ah,n2⟩:=aa;have ac: ∀x:qt (w.alloc (.cells #[ι g,ψ b] 233)),x.w'.cell? ⟨w.heap.size,0,none⟩=some (ι g):=λx=>x.new 0 rfl
 have ad: ∀x:qt (w.alloc (.cells #[ι g,ψ b] 233)),x.w'.cell? ⟨w.heap.size,1,none⟩=some (ψ b):=λx=>x.new 1 rfl
 have ab:=Gx;by_cases hlt:g-63<=n
 ·have H:=IC g b n U hlt;clear U;by_cases e1:(zt g b n).1=g
  ·by_cases e2:(zt g b n).2=b
   ·have d:=κ (show true=yi g b n by rw[<-H];simp[e1,e2]);clear H
    go_enter func248,ntmps248
    go_wp2;refine qD (w.alloc (.cells #[ι g,ψ b] 233)) (qa.refl _) ξ ξ ?_
    repeat (go_big_quiet_step ((go_at_call 236;exact j6 (gS g b n J.o N.o I.o _))))
    refine wpQuiet_nil ?_;intro _ G;obtain⟨x,rfl⟩:=G;go_wp2;go_ret;exact⟨qZ d.o,(qa.alloc _ _).trans x.h⟩
   ·have d:=κ (show false=yi g b n by rw[<-H];simp[e2]);clear H
    go_enter func248,ntmps248
    go_wp2;refine qD (w.alloc (.cells #[ι g,ψ b] 233)) (qa.refl _) ξ ξ ?_
    repeat (go_big_quiet_step ((go_at_call 236;exact j6 (gS g b n J.o N.o I.o _))))
    refine wpQuiet_nil ?_;intro _ G;obtain⟨x,rfl⟩:=G;go_wp2;go_ret;exact⟨qZ d.o,(qa.alloc _ _).trans x.h⟩
  ·have d:=κ (show false=yi g b n by rw[<-H];simp[e1]);clear H
   go_enter func248,ntmps248
   go_wp2;refine qD (w.alloc (.cells #[ι g,ψ b] 233)) (qa.refl _) ξ ξ ?_
   repeat (go_big_quiet_step ((go_at_call 236;exact j6 (gS g b n J.o N.o I.o _))))
   refine wpQuiet_nil ?_;intro _ G;obtain⟨x,rfl⟩:=G;go_wp2;go_ret;exact⟨qZ d.o,(qa.alloc _ _).trans x.h⟩
 ·have d:=κ (show false=yi g b n by unfold yi;simp[show ¬(n<=g/\g-n<=63) by omega]);clear U;have ag:decide (g-63<=n)=false:=by simp;omega
  clear hlt
  go_enter func248,ntmps248
  go_wp2;refine qD (w.alloc (.cells #[ι g,ψ b] 233)) (qa.refl _) ξ ξ ?_
  repeat (go_big_quiet_step (fail))
  refine wpQuiet_nil ?_;intro _ G;obtain⟨x,rfl⟩:=G;go_wp2;go_ret;exact⟨qZ d.o,(qa.alloc _ _).trans x.h⟩
abbrev Hd:=Int×Int×Int
def hd1 (h:Hd):List Value:=[.int .i64 h.1,.int .i64 h.2.1,.int .i64 h.2.2]
def hdC (l:List Hd):List Value:=l.flatMap hd1
theorem gP (h:Hd) (l:List Hd):hdC (h::l)=hd1 h++hdC l:=rfl
theorem uT (k l:List Hd):hdC (k++l)=hdC k++hdC l:=by simp[hdC]
theorem yu (l:List Hd):(hdC l).length=l.length* 3:=by
 induction l with
 | nil=>rfl
 | cons p l ih=>rw[gP,List.length_append,ih,List.length_cons];simp[hd1];omega
theorem Ac: ∀(l:List Hd) (i:Nat),i<l.length->(hdC l)[i* 3]? =some (ι (l.getD i (0,0,0)).1)/\(hdC l)[i* 3+1]? =some (ι (l.getD i (0,0,0)).2.1)/\(hdC l)[i* 3+2]? =some (ι (l.getD i (0,0,0)).2.2)
 | [],_,h=>absurd h η
 | h::l,0,_=>⟨rfl,rfl,rfl⟩
 | h::l,i+1,hi=>by
  have d:=Ac l i (by simpa using hi);have e: ∀c,(hdC (h::l))[(i+1)* 3+c]? =(hdC l)[i* 3+c]? :=by
   intro c;rw[gP,List.getElem?_append_right (by simp[hd1];omega)]
   congr 1
   simp[hd1];omega
  have e0:=e 0;rw[Nat.add_zero,Nat.add_zero] at e0;rw[e0,e 1,e 2];exact d
theorem YE (l:List Hd): ∀u∈hdC l,u.oneCell'=true:=by
 intro u d;obtain⟨h,_,d⟩:=List.mem_flatMap.1 d;simp[hd1] at d;rcases d with rfl | rfl | rfl<;>rfl
def zT (w:World) (base:Nat) (v:Value) (L:List Hd):Prop:=w.ownsRow base 338 3 v L.length (hdC L)
theorem zT.more {w w':World} {base:Nat} {v:Value} {L:List Hd} (h:zT w base v L) (m:qa w w'):zT w' base v L:=jE h m
theorem zT.shape {w:World} {base:Nat} {v:Value} {L:List Hd} (h:zT w base v L): ∃oa cap,v= δ oa L.length cap/\(L.length:Int)<=9223372036854775807:=by
 rcases h.2 with ⟨rfl,d⟩ | ⟨g,cap,cur,rfl,_,_,H,G,_⟩
 ·exact⟨none,0,by rw[d],τ⟩
 ·exact⟨_,cap,rfl,by unfold maxLen at G;omega⟩
theorem zT.cell {w:World} {base:Nat} {v:Value} {L:List Hd} (h:zT w base v L) (i:Nat) (hi:i<L.length):
  ∃g cap,v= δ (some ⟨g,0,none⟩) L.length cap/\base<=g/\g<w.heap.size/\ ∀x,qa w x->x.cell? ⟨g,i* 3,none⟩=some (ι (L.getD i (0,0,0)).1)/\x.cell? ⟨g,i* 3+1,none⟩=some (ι (L.getD i (0,0,0)).2.1)/\x.cell? ⟨g,i* 3+2,none⟩=some (ι (L.getD i (0,0,0)).2.2):=by
 rcases h.2 with ⟨rfl,O⟩ | ⟨g,cap,cur,rfl,I,d,Y,U,aa,N⟩
 ·omega
 ·refine⟨g,cap,rfl,I,lt_of_block d,λx m=> ?_⟩;obtain⟨a0,G,H⟩:=Ac L i hi;have key: ∀j,j<L.length* 3->x.cell? ⟨g,j,none⟩=(hdC L)[j]? :=by
   intro j J;rw[m.cells g j (lt_of_block d),cell_of_row w g _ cur _ (0,0) d,<-N,List.getElem?_take,if_pos J];simp
  exact⟨by rw[key _ τ];exact a0,by rw[key _ τ];exact G,by rw[key _ τ];exact H⟩
def Jk (p:Hd->Bool) (L:List Hd):Int:=if L.findIdx p<L.length then (L.findIdx p:Int) else -1
theorem Cf {p:Hd->Bool} {L:List Hd} {k:Nat} (d:k<L.length) (h:p (L.getD k (0,0,0))=true) (G: ∀j,j<k->p (L.getD j (0,0,0))=false):Jk p L=k:=by
 have e:L.findIdx p=k:=by
  rw[List.findIdx_eq d];rw[List.getD_eq_getElem?_getD,List.getElem?_eq_getElem d,Option.getD_some] at h;refine⟨h,λj H=> ?_⟩;have:=G j H
  rwa [List.getD_eq_getElem?_getD,List.getElem?_eq_getElem τ,Option.getD_some] at this
 unfold Jk;rw[e,if_pos d]
theorem PF {p:Hd->Bool} {L:List Hd} (G: ∀j,j<L.length->p (L.getD j (0,0,0))=false):Jk p L= -1:=by
 have e:L.findIdx p=L.length:=by
  rw[List.findIdx_eq_length];intro x H;obtain⟨j,d,rfl⟩:=List.mem_iff_getElem.1 H;have:=G j d
  rwa [List.getD_eq_getElem?_getD,List.getElem?_eq_getElem d,Option.getD_some] at this
 unfold Jk;rw[e,if_neg (Nat.lt_irrefl _)]
theorem Cg (p:Hd->Bool) (L:List Hd):decide (0<=Jk p L)=L.any p:=by
 unfold Jk;by_cases h:L.findIdx p<L.length
 ·rw[if_pos h,decide_eq_true τ];exact(List.any_eq_true.2 ⟨L[L.findIdx p],List.getElem_mem _,List.findIdx_getElem⟩).symm
 ·rw[if_neg h];have e:L.any p=false:=by
   rw[List.any_eq_false];intro x G d;exact h (List.findIdx_lt_length_of_exists ⟨x,G,d⟩)
  rw[e];rfl
def ZA (g:Nat) (lb:Array Value) (p:Hd->Bool) (L:List Hd) (w:World):Prop:=
 ∀(W:World) (x:Hd),x∈L->qa w W->Calls Tryz.prog g (#[.agg #[.int .i64 x.1,.int .i64 x.2.1,.int .i64 x.2.2]]++lb) W λe w'=>e= .returned (.bool (p x))/\qa W w'
theorem wJ (g:Nat) (lb:Array Value) (p:Hd->Bool) (ab: ∀args w,(callFunc g args).run prog w= .ok (.enter g args) w) (L:List Hd) (v:Value) (base:Nat) (w:World) (row:zT w base v L) (af:ZA g lb p L w):
  Calls prog 231 #[v,.func (.func g) #[] lb] w λe w'=>e= .returned (ι (Jk p L))/\qa w w':=by
 have ah:=κ row;have ag:=κ af;obtain⟨aq,cap,rfl,an⟩:=row.shape;clear row af
 go_enter func231,ntmps231
 go_wp2
 go_loopw [5,8] (λ_ aa wr=> ∃k:Nat,k<=L.length/\aa= ι k/\(∀j,j<k->p (L.getD j (0,0,0))=false)/\qa w wr) (λ_ aa _=>L.length-(intOf aa).toNat)
 case atStart=>exact⟨0,τ,rfl,λj ae=>absurd ae (Nat.not_lt_zero _),qa.refl _⟩
 case round=>
  obtain⟨k,ap,rfl,ac,J⟩:=hrel;have I:=κ ac;have O:=κ J;clear ac;by_cases hlt:k<L.length
  ·have aj:(k:Int)<(L.length:Int):=by omega
   obtain⟨b,c,e,_,ao,ad⟩:=ah.o.cell k hlt;cases e;obtain⟨ai,c1,c2⟩:=ad wr J;have d:=ag.o wr (L.getD k (0,0,0)) (by rw[List.getD_eq_getElem?_getD,List.getElem?_eq_getElem hlt];exact List.getElem_mem hlt) J;have Y:Hid (p (L.getD k (0,0,0))=true->Jk p L=k):=κ λh=>Cf hlt h I.o
   have U:Hid (p (L.getD k (0,0,0))=false-> ∀j,j<k+1->p (L.getD j (0,0,0))=false):=κ λh j ae=>by
    by_cases e:j=k
    ·subst e;exact h
    ·exact I.o j τ
   clear ad J I;generalize L.getD k (0,0,0)=y at *;obtain⟨ak,al,am⟩:=y;simp only at ai c1 c2 d;cases hq:p (ak,al,am) with
   | true=>
    rw[hq] at d;have G:=κ (Y.o hq);clear Y U hq
    go_wp2_with (refine d.mono ?_;rintro e w' ⟨rfl,H⟩;have N:=κ H;clear H d ab)
    go_ret;exact⟨by rw[G.o];rfl,O.o.trans N.o⟩
   | false=>
    rw[hq] at d;have G:=κ (U.o hq);clear Y U hq
    go_wp2_with (refine d.mono ?_;rintro e w' ⟨rfl,H⟩;have N:=κ H;clear H d ab)
    go_roundw
    case rel=>exact⟨k+1,τ,by go_num,G.o,O.o.trans N.o⟩
    case measure=>simp[intOf];omega
  ·obtain rfl:k=L.length:=by omega
   have G:=κ (PF I.o);have aj: ¬(L.length:Int)<(L.length:Int):=by omega
   go_wp2;go_ret;exact⟨by rw[G.o];rfl,O.o⟩
theorem xt (g:Nat) (lb:Array Value) (p:Hd->Bool) (I: ∀args w,(callFunc g args).run prog w= .ok (.enter g args) w) (L:List Hd) (v:Value) (base:Nat) (w:World) (row:zT w base v L) (d:ZA g lb p L w):
  Calls prog 173 #[v,.func (.func g) #[] lb] w λe w'=>e= .returned (μ (L.any p))/\qa w w':=by
 have H:=κ row;have G:=κ d;obtain⟨O,cap,rfl,N⟩:=row.shape;rw[<-Cg];clear row d
 go_enter func173,ntmps173
 go_wp2_with (go_at_call 231;((with_reducible refine(wJ g lb p I L _ base _ H.o G.o).mono ?_);rintro e w1 ⟨rfl,J⟩))
 go_ret;exact⟨rfl,J⟩
def xO (cur:List Value) (o:Nat) (vs:List Value):List Value:=cur.take o++vs++cur.drop (o+vs.length)
theorem ut {cur d:List Value} {o:Nat} (h:o+d.length<=cur.length):(xO cur o d).length=cur.length:=by
 unfold xO;rw[List.length_append,List.length_append,List.length_take,List.length_drop];omega
theorem jM {w:World} {g e:Nat} {cur:Array Value} (h:w.heap[g]? =some (.cells cur e (0,0))) (cs:Array Value):(w.setRow g cs).heap[g]? =some (.cells cs e (0,0)):=setRow_heap w g cur cs e (0,0) h
theorem qg.setRow (w:World) (g:Nat) (cs:Array Value):qg (λk=>k=g) w (w.setRow g cs):=by
 refine⟨rfl,rfl,rfl,by simp[World.setRow],λb G d=> ?_⟩;unfold World.setRow;simp only;rw[Array.getElem?_modify,if_neg (λe=>d e.symm)]
section
variable {P:Program}
theorem yN (w:World) (t ad e:TypeId) (i:TypeInfo) (ac:P.underlying t=some (.slice e)) (hi:P.info? e=some i) (g o G J:Nat) (cur:Array Value) (Y:w.heap[g]? =some (.cells cur e (0,0)))
  (a:Addr) (d I:Nat) (cs:List Value) (aa:cs.length=Nat.min d G* i.size) (ab: ∀j v,cs[j]? =some v->w.cell? (a.add j)=some v) (U:o+cs.length<=cur.size) (N: ∀v∈cs,v.oneCell'=true):
  (Builtin.copy_ #[t,t] ad #[δ (some ⟨g,o,none⟩) G J,δ (some a) d I]).run P w= .ok (goInt (Nat.min d G)) (w.setRow g (xO cur.toList o cs).toArray):=by
 have O:=run_firstCells_some (P:=P) (w:=w) i.size (Nat.min d G) a d I cs aa ab;have H:=run_storeCells_at P g o e cs 0 cur w Y (by simpa using U) N;simp only[Nat.add_zero] at H;unfold xO;simp[Builtin.copy_,run_underlying ac,Builtin.lenOf,sizeOf,typeInfo,hi,O,H]
theorem Zi (w:World) (t O e:TypeId) (z:Value) (J:P.underlying t=some (.slice e)) (N:(zeroValue e).run P w= .ok z w) (g o n c:Nat) (U:0<n) (cur:Array Value) (I:w.heap[g]? =some (.cells cur e (0,0)))
  (H:o+(Builtin.zeroCells z.cells n).toList.length<=cur.size) (G: ∀v∈(Builtin.zeroCells z.cells n).toList,v.oneCell'=true):
  (Builtin.clear_ #[t] O #[δ (some ⟨g,o,none⟩) n c]).run P w= .ok (.tuple #[]) (w.setRow g (xO cur.toList o (Builtin.zeroCells z.cells n).toList).toArray):=by
 have d:=run_storeCells_at P g o e (Builtin.zeroCells z.cells n).toList 0 cur w I (by simpa using H) G;simp only[Nat.add_zero] at d;obtain⟨m,rfl⟩: ∃m,n=m+1:=⟨n-1,τ⟩;unfold xO;simp[Builtin.clear_,run_underlying J,N,d]
theorem Jo {ops:Array Oper} {o:Oper} {a:Act} {w:World} {K:Act->World->Prop} {Q:Exit->Act->World->Prop} {E:Prop}
  (G:o.guard=none) (s x:Operand) (t t':TypeId) (H:o.op=Op.call {callee:=Callee.builtin Builtin.append,args:= #[s,x],argTypes:= #[t,t']})
  (v u:Value) (J:a.eval s=v) (O:a.eval x=u) {v':Value} {w':World} (I:(Builtin.append_ #[t,t'] o.type #[v,u]).run P w= .ok v' w') (d:K (a.put o.dst v') w'):
  if Region.wanted o (yielded ops a.tmps)=true then Oper.wp P o a w K Q else E:=by
 have N:Region.wanted o (yielded ops a.tmps)=true:=by simp[Region.wanted,G]
 rw[if_pos N];unfold Oper.wp;simp[execOp,H,resolve,invoke,builtin,J,O,I,Result.andThen];exact d
end
theorem Gt (w:World):(zeroValue 338).run prog w= .ok (θ #[ι 0,ι 0,ι 0]) w:=by kernel_rfl
theorem KN:(Builtin.zeroCells (θ #[ι 0,ι 0,ι 0]).cells 1).toList=[ι 0,ι 0,ι 0]:=by kernel_rfl
theorem Vc (h:Hd) (T:List Hd) (v:Value) (base:Nat) (w:World) (row:zT w base v (h::T)):
  Calls prog 235 #[v,ι 0,ι 1] w λe w'=> ∃v',e= .returned v'/\zT w' base v' T/\qg (λk=>v.ownBlock=some k) w w'/\v'.ownBlock=v.ownBlock:=by
 obtain⟨ag,⟨_,aa⟩ | ⟨g,cap,cur,rfl,ar,J,U,ab,ac,Y⟩⟩:=row
 ·simp at aa
 rw[List.length_cons] at ag U Y ⊢;obtain⟨ax,aj,av,am,aw⟩:=info_parts (P:=prog) (e:=338) (z:= θ #[ι 0,ι 0,ι 0]) (size:=3) (bytes:=24) ξ;obtain⟨n,O⟩:=ν (T.length);rw[O] at ag U Y ⊢;have d:(hdC T).length=n* 3:=by rw[yu,O]
 have ai:cur.toList.length=cap* 3:=by simpa using ac
 obtain⟨A,ay,ak⟩: ∃A:Addr,(if cap=1 then some (⟨g,0,none⟩:Addr) else some ⟨g,3,none⟩)=some A/\ ∀j u,(hdC T)[j]? =some u->w.drew.cell? (A.add j)=some u:=by
  by_cases h1:cap=1
  ·refine⟨⟨g,0,none⟩,by simp[h1],λj u H=> ?_⟩;have aa:(hdC T).length=0:=by rw[d];omega
   rw[List.length_eq_zero_iff.1 aa] at H;simp at H
  ·refine⟨⟨g,3,none⟩,by simp[h1],λj u H=> ?_⟩;have aC:j<n* 3:=by rw[<-d];exact(List.getElem?_eq_some_iff.1 H).1
   rw[Addr.add_lit];show w.cell? ⟨g,3+j,none⟩=some u;rw[cell_of_row w g _ cur _ (0,0) J];have e:(hdC (h::T))[3+j]? =some u:=by
    rw[gP,List.getElem?_append_right (by simp[hd1])]
    simpa [hd1] using H
   rw[<-Y,List.getElem?_take,if_pos τ] at e
   simpa using e
 have ae: ∀G,(Builtin.append_ #[230,230] G #[δ (some ⟨g,0,none⟩) 0 cap,δ (some A) n (cap-1)]).run prog w.drew= .ok (δ (some ⟨g,0,none⟩) n cap) (w.drew.setRow g (hdC T++cur.toList.drop (n* 3)).toArray):=by
  intro G;have:=run_append_room (P:=prog) (w:=w.drew) 230 G 338 ax underlying230 aj g 0 cap cur J A n (cap-1) (hdC T) (by rw[am];exact d) ak (YE T) τ (by rw[d];have:cur.size=cap* 3:=ac;omega);rw[Nat.zero_add,Nat.zero_mul,Nat.zero_add,List.take_zero,List.nil_append,d] at this;exact this
 obtain⟨W1,I⟩: ∃W1,W1=w.drew.setRow g (hdC T++cur.toList.drop (n* 3)).toArray:=⟨_,rfl⟩;have ad:W1.heap[g]? =some (.cells (hdC T++cur.toList.drop (n* 3)).toArray 338 (0,0)):=by rw[I];exact jM (w:=w.drew) J _
 have ah:qg (λk=>k=g) w W1:=by rw[I];exact(show qg (λk=>k=g) w w.drew from qg.of_more (qa.drewN w 1)).trans (qg.setRow w.drew g _)
 have N:(hdC T++cur.toList.drop (n* 3)).length=cap* 3:=by rw[List.length_append,List.length_drop,d,ai];omega
 have af: ∀G c,(Builtin.clear_ #[230] G #[δ (some ⟨g,n* 3,none⟩) 1 c]).run prog W1= .ok (.tuple #[]) (W1.setRow g (xO (hdC T++cur.toList.drop (n* 3)) (n* 3) [ι 0,ι 0,ι 0]).toArray):=by
  intro G c;have:=Zi (P:=prog) W1 230 G 338 (θ #[ι 0,ι 0,ι 0]) underlying230 (Gt W1) g (n* 3) 1 c ζ _ ad (by rw[KN];show n* 3+3<=_;rw[List.size_toArray,N];omega) (by rw[KN];intro v al;simp at al;rw[al];rfl);rw[KN] at this
  simpa using this
 have ao:Hid (zT (W1.setRow g (xO (hdC T++cur.toList.drop (n* 3)) (n* 3) [ι 0,ι 0,ι 0]).toArray) base (δ (some ⟨g,0,none⟩) n cap) T):=κ (by
  refine⟨by rw[yu],Or.inr ⟨g,cap,_,by rw[O],ar,jM ad _,τ,ab, ?_, ?_⟩⟩
  ·rw[List.size_toArray,ut (by rw[N];show n* 3+3<=_;omega),N]
  ·unfold xO;rw[O];simp only[List.append_assoc]
   rw[List.take_append_of_le_length (by rw[List.length_take,List.length_append,d];omega),List.take_take,Nat.min_self,List.take_append_of_le_length (by rw[d];exact Nat.le_refl _),List.take_of_length_le (by rw[d];exact Nat.le_refl _)])
 have an:Hid (qg (λk=>k=g) w (W1.setRow g (xO (hdC T++cur.toList.drop (n* 3)) (n* 3) [ι 0,ι 0,ι 0]).toArray)):=κ (ah.trans (qg.setRow W1 g _));rw[<-I] at ae;have ap:=κ ae;have aq:=κ af;have az:1<=cap:=by omega
 have aE:n+1<=cap:=U;have aA:(cap:Int)<=9223372036854775807:=by unfold maxLen at ab;omega
 generalize W1.setRow g (xO (hdC T++cur.toList.drop (n* 3)) (n* 3) [ι 0,ι 0,ι 0]).toArray=W2 at *;clear ae af ak ag Y ac ai d J ad ah N I ab aj av am aw U;have mixed:prog.follows Departure.mixedOrders=true:=by kernel_rfl
 have aD:(1:Int)<=(n:Int)+1:=by omega
 go_enter func235,ntmps235
 go_wp2_with fail
 go_region_law_o (refine Jo rfl (.tmp 22) (.tmp 25) 230 230 rfl _ _ (by simp[Act.eval,Act.put]) (by simp[Act.eval,Act.put]) (ap.o _) ?_)
 have af:=aq.o;have aB: ¬cap=n:=by omega
 go_wp2;go_ret;exact⟨_,rfl,ao.o,an.o.mono λk au=>by subst au;rfl,rfl⟩
section
open Go.RowKit Go.Lib
theorem gO (A B d:List Value):xO (A++B) A.length d=A++(d++B.drop d.length):=by
 unfold xO;rw[List.take_left,List.append_assoc]
 congr 2
 rw[<-List.drop_drop,List.drop_left]
theorem Et {A Z D X V:List Value} (G:Z.length=V.length):xO (xO (A++(Z++D)) (A.length+Z.length) X) A.length V=A++(V++(X++D.drop X.length)):=by
 have d:xO (A++(Z++D)) (A.length+Z.length) X=A++(Z++(X++D.drop X.length)):=by
  have:=gO (A++Z) D X;rw[List.length_append] at this
  simpa only[List.append_assoc] using this
 rw[d,gO,<-G,List.drop_left]
theorem Bh {A Z D X V:List Value} (d:Z.length=V.length):xO (xO (A++(Z++D)) A.length V) (A.length+V.length) X=A++(V++(X++D.drop X.length)):=by
 rw[gO,<-d,List.drop_left];have:=gO (A++V) D X;rw[List.length_append] at this;rw[d]
 simpa only[List.append_assoc] using this
section
variable {P:Program}
theorem uH {ops:Array Oper} {o:Oper} {a:Act} {w:World} {K:Act->World->Prop} {Q:Exit->Act->World->Prop} {E:Prop}
  (N:o.guard=none) (d x:Operand) (G H:TypeId) (O:o.op=Op.call {callee:=Callee.builtin Builtin.copy,args:= #[d,x],argTypes:= #[G,H]})
  (v u:Value) (J:a.eval d=v) (aa:a.eval x=u) {v':Value} {w':World} (U:(Builtin.copy_ #[G,H] o.type #[v,u]).run P w= .ok v' w') (I:K (a.put o.dst v') w'):
  if Region.wanted o (yielded ops a.tmps)=true then Oper.wp P o a w K Q else E:=by
 have Y:Region.wanted o (yielded ops a.tmps)=true:=by simp[Region.wanted,N]
 rw[if_pos Y];unfold Oper.wp;simp[execOp,O,resolve,invoke,builtin,J,aa,U,Result.andThen];exact I
end
theorem gE (h:Hd):(hd1 h).length=3:=rfl
structure Vh (L:List Hd) (h:Hd) (v:Value) (base:Nat) (w:World) (vb:Nat):Prop where
 row:zT w base v L
 base:base<=w.heap.size
 len:L.length<=1000
 one:w.heap[vb]? =some (.cells #[.int .i64 h.1,.int .i64 h.2.1,.int .i64 h.2.2] 338 (0,0))
 ne:v.ownBlock≠some vb
def JS (L:List Hd) (i:Nat) (h:Hd) (v:Value) (base:Nat) (w:World) (e:Ending) (w':World):Prop:=
 ∃v',e= .returned v'/\zT w' base v' (L.take i++h::L.drop i)/\qg (λk=>v.ownBlock=some k) w w'/\(v'.ownBlock=v.ownBlock∨v'.ownBlock=some w.heap.size)
theorem Qw {w:World} {h:Hd} {vb:Nat} (d:w.heap[vb]? =some (.cells #[ι h.1,ι h.2.1,ι h.2.2] 338 (0,0))): ∀j u,(hd1 h)[j]? =some u->w.cell? ((⟨vb,0,none⟩:Addr).add j)=some u:=by
 intro j u G;rw[Addr.add_lit,Nat.zero_add,cell_of_row w vb j _ _ (0,0) d]
 simpa [hd1] using G
theorem YF (h:Hd): ∀u∈hd1 h,u.oneCell'=true:=by
 intro u d;simp[hd1] at d;rcases d with rfl | rfl | rfl<;>rfl
theorem Wj (L:List Hd) (h:Hd) (v:Value) (base:Nat) (w:World) (vb:Nat) (ok:Vh L h v base w vb):
  Calls prog 249 #[v,ι L.length,δ (some ⟨vb,0,none⟩) 1 1] w (JS L L.length h v base w):=by
 obtain⟨row,aj,av,H,ac⟩:=ok;obtain⟨aq,G,O,U,Y⟩:=info_parts (P:=prog) (e:=338) (z:= θ #[ι 0,ι 0,ι 0]) (size:=3) (bytes:=24) ξ;obtain⟨v',w',N,J,d,_,I⟩: ∃v' w',(∀ad,(Builtin.append_ #[230,230] ad #[v,δ (some ⟨vb,0,none⟩) 1 1]).run prog w= .ok v' w')/\w'.ownsRow base 338 3 v' (L.length+1) (hdC L++hd1 h)/\w.grownBy w' v.ownBlock/\True/\(v'.ownBlock=v.ownBlock∨v'.ownBlock=some w.heap.size):=by
  obtain⟨v',w',af,ag,ah,_,ai⟩:=run_append_own_at (P:=prog) (w:=w) base 230 0 338 aq (θ #[ι 0,ι 0,ι 0]) 3 24 underlying230 G O U Y rfl ζ v L.length (hdC L) row ⟨vb,0,none⟩ 1 1 (hd1 h) rfl (Qw H) (YF h) (by unfold maxLen;omega) τ aj;exact⟨v',w',λad=>af,ag,ah,trivial,ai⟩
 have aa:Hid (JS L L.length h v base w (.returned v') w'):=κ ⟨v',rfl,by
  unfold zT;rw[List.take_length,List.drop_length,uT,List.length_append]
  exact J,⟨d.os,d.tape,d.output,d.size,λk am ao=>d.block k am (λe=>ao e.symm)⟩,I⟩
 have ab:=κ N;rcases row with ⟨_,⟨rfl,ae⟩ | ⟨g,cap,cur,rfl,ar,al,an,au,ak,ap⟩⟩
 ·rw[ae] at *;clear N J d I H G O U Y ac
  go_enter func249,ntmps249
  go_wp2_with (at_builtin;refine Lib.wpList_append_run _ rfl _ _ _ _ rfl _ _ rfl rfl _ _ (ab.o _) ?_)
  go_ret;exact aa.o
 ·have aw:L.length<=cap:=an;clear N J d I H G O U Y ac al ak ap
  go_enter func249,ntmps249
  go_wp2_with (at_builtin;refine Lib.wpList_append_run _ rfl _ _ _ _ rfl _ _ rfl rfl _ _ (ab.o _) ?_)
  all_goals (go_ret;exact aa.o)
end
section
open Go.RowKit Go.Lib
theorem Uq {C:List Value} {L:List Hd} {i:Nat} (hi:i<L.length) (H:C.take (L.length* 3)=hdC L) (I:L.length* 3<=C.length):
  ∃Z R,C=hdC (L.take i)++(Z++R)/\Z.length=3/\(hdC (L.take i)).length=i* 3:=by
 have d:(hdC (L.take i)).length=i* 3:=by rw[yu,List.length_take];congr 1;omega
 have e:C.take (i* 3)=hdC (L.take i):=by
  have G:C.take (i* 3)=(C.take (L.length* 3)).take (i* 3):=by
   rw[List.take_take];congr 1;have:i* 3<=L.length* 3:=Nat.mul_le_mul_right 3 τ;omega
  rw[G,H]
  conv=>lhs;rw[<-List.take_append_drop i L,uT]
  rw[<-d,List.take_left]
 refine⟨(C.drop (i* 3)).take 3,(C.drop (i* 3)).drop 3, ?_, ?_,d⟩
 ·rw[List.take_append_drop,<-e,List.take_append_drop]
 ·have:i* 3+3<=L.length* 3:=by
   have:=Nat.mul_le_mul_right 3 (show i+1<=L.length from hi);omega
  rw[List.length_take,List.length_drop];omega
theorem VM {L:List Hd} {i:Nat} {h:Hd} {D:List Value} (hi:i<L.length):
  (hdC (L.take i)++(hd1 h++(hdC (L.drop i)++D))).take ((L.length+1)* 3)=hdC (L.take i++h::L.drop i):=by
 have e:hdC (L.take i++h::L.drop i)=hdC (L.take i)++(hd1 h++hdC (L.drop i)):=by rw[uT,gP]
 have d:(hdC (L.take i++h::L.drop i)).length=(L.length+1)* 3:=by
  rw[yu,List.length_append,List.length_cons,List.length_take,List.length_drop];congr 1;omega
 rw[<-d];have:hdC (L.take i)++(hd1 h++(hdC (L.drop i)++D))=hdC (L.take i++h::L.drop i)++D:=by rw[e];simp only[List.append_assoc]
 rw[this,List.take_left]
theorem YU (w:World) (g vb cap o k lb G:Nat) (cur H:Array Value) (J:w.heap[g]? =some (.cells cur 338 (0,0))) (I:cur.size≠0) (d:w.heap[vb]? =some (.cells H 338 (0,0))) (N:vb≠g):
  (callFunc 283 #[δ (some ⟨vb,0,none⟩) 1 1,δ (some ⟨g,o,none⟩) lb G]).run prog w= .ok (.value (μ false)) w:=by
 rw[run_callFunc_extern func283 ξ ξ ξ (e:=Extern.SlicesOverlaps.overlaps #[230,230] #[4]) ξ,
  Lib.run_overlaps_apart w 230 4 338 underlying230 3 (λw=>by kernel_rfl) ⟨vb,0,none⟩ ⟨g,o,none⟩ 1 1 lb G N 338 338 H.size cur.size (by simp[World.shape?,d]) (by simp[World.shape?,J]) I (qd d 0) (qd d _)]
 rfl
theorem Vb (L:List Hd) (i:Nat) (hi:i<L.length) (h:Hd) (base:Nat) (w:World) (vb g cap:Nat) (ok:Vh L h (δ (some ⟨g,0,none⟩) L.length cap) base w vb) (aw:L.length+1<=cap):
  Calls prog 249 #[δ (some ⟨g,0,none⟩) L.length cap,ι i,δ (some ⟨vb,0,none⟩) 1 1] w (JS L i h (δ (some ⟨g,0,none⟩) L.length cap) base w):=by
 obtain⟨row,aL,ao,ag,ar⟩:=ok;obtain⟨aG,⟨aC,_⟩ | ⟨g',aJ,cur,e,aE,I,aq,ac,an,aj⟩⟩:=row
 ·cases aC
 cases e;have au:vb≠g:=λe=>ar (by rw[e];rfl)
 obtain⟨ay,ae,aH,ak,aI⟩:=info_parts (P:=prog) (e:=338) (z:= θ #[ι 0,ι 0,ι 0]) (size:=3) (bytes:=24) ξ;have ab:cur.toList.length=cap* 3:=by simpa using an
 obtain⟨Z,R,am,Y,U⟩:=Uq hi aj τ;have H:(hdC (L.drop i)).length=(L.length-i)* 3:=by rw[yu,List.length_drop]
 obtain⟨n,af⟩:=ν (L.length);have aD:=λ(o lb aB:Nat)=>YU w g vb cap o 0 lb aB cur _ I τ ag au
 have ah: ∀G d sc,(Builtin.copy_ #[230,230] G #[δ (some ⟨g,(i+1)* 3,none⟩) (n-i) d,δ (some ⟨g,i* 3,none⟩) (n+1-i) sc]).run prog w.drew= .ok (ι ((n-i:Nat):Int)) (w.drew.setRow g (xO cur.toList ((i+1)* 3) (hdC (L.drop i))).toArray):=by
  intro G d sc;have J:Nat.min (n+1-i) (n-i)=n-i:=by simp only[Nat.min_def];split<;>omega
  have:=yN (P:=prog) w.drew 230 G 338 ay underlying230 ae g ((i+1)* 3) (n-i) d cur I ⟨g,i* 3,none⟩ (n+1-i) sc (hdC (L.drop i)) (by rw[J,ak,H,af]) (by
   intro j u ax;rw[Addr.add_lit];show w.cell? ⟨g,i* 3+j,none⟩=some u;rw[cell_of_row w g _ cur _ (0,0) I];have aN:j<(L.length-i)* 3:=by rw[<-H];exact(List.getElem?_eq_some_iff.1 ax).1
   have e:(hdC L)[i* 3+j]? =some u:=by
    conv=>lhs;rw[<-List.take_append_drop i L,uT]
    rw[List.getElem?_append_right τ,U,Nat.add_sub_cancel_left];exact ax
   rw[<-aj,List.getElem?_take,if_pos τ] at e
   simpa using e) (by rw[H];omega) (YE _)
  rw[J] at this;rw[this];rfl
 obtain⟨W1,N⟩: ∃W1,W1=w.drew.setRow g (xO cur.toList ((i+1)* 3) (hdC (L.drop i))).toArray:=⟨_,rfl⟩;have ad:W1.heap[g]? =some (.cells (xO cur.toList ((i+1)* 3) (hdC (L.drop i))).toArray 338 (0,0)):=by rw[N];exact jM (w:=w.drew) I _
 have aa:qg (λk=>k=g) w W1:=by rw[N];exact(show qg (λk=>k=g) w w.drew from qg.of_more (qa.drewN w 1)).trans (qg.setRow w.drew g _)
 have O:(xO cur.toList ((i+1)* 3) (hdC (L.drop i))).length=cap* 3:=by rw[ut (by rw[H,ab];omega),ab]
 have av:=aa.blk ag au;have ai: ∀G d,(Builtin.copy_ #[230,230] G #[δ (some ⟨g,i* 3,none⟩) (n+1-i) d,δ (some ⟨vb,0,none⟩) 1 1]).run prog W1= .ok (ι 1) (W1.setRow g (xO (xO cur.toList ((i+1)* 3) (hdC (L.drop i))) (i* 3) (hd1 h)).toArray):=by
  intro G d;have J:Nat.min 1 (n+1-i)=1:=by simp only[Nat.min_def];split<;>omega
  have:=yN (P:=prog) W1 230 G 338 ay underlying230 ae g (i* 3) (n+1-i) d _ ad ⟨vb,0,none⟩ 1 1 (hd1 h) (by rw[J,ak];rfl) (Qw av) (by rw[List.size_toArray,O,gE];omega) (YF h);rw[J] at this;rw[this];rfl
 have al:Hid (JS L i h (δ (some ⟨g,0,none⟩) L.length cap) base w (.returned (δ (some ⟨g,0,none⟩) (n+1) cap)) (W1.setRow g (xO (xO cur.toList ((i+1)* 3) (hdC (L.drop i))) (i* 3) (hd1 h)).toArray)):=κ (by
  have ap:(L.take i++h::L.drop i).length=n+1:=by rw[List.length_append,List.length_cons,List.length_take,List.length_drop];omega
  refine⟨_,rfl,⟨by rw[yu],Or.inr ⟨g,cap,_,by rw[ap],aE,jM ad _,τ,ac, ?_, ?_⟩⟩,(aa.trans (qg.setRow W1 g _)).mono λk aF=>by subst aF;rfl,Or.inl rfl⟩
  ·rw[List.size_toArray,ut (by rw[O,gE];omega),O]
  ·have:=Et (A:=hdC (L.take i)) (Z:=Z) (D:=R) (X:=hdC (L.drop i)) (V:=hd1 h) (by rw[Y];rfl);rw[Y,U,<-am,show i* 3+3=(i+1)* 3 by omega] at this;rw[ap,<-af];simp only[this]
   exact VM hi)
 rw[<-N] at ah;generalize W1.setRow g (xO (xO cur.toList ((i+1)* 3) (hdC (L.drop i))) (i* 3) (hd1 h)).toArray=W2 at *;rw[af] at aw ao aq al ⊢;have az:=κ ah;have aA:=κ ai;have mixed:prog.follows Departure.mixedOrders=true:=by kernel_rfl
 have aP:IntKind.i64.wrap ((i:Int)+1)=(i:Int)+1:=by rw[IntKind.wrap_i64];omega
 have aK:(0:Int)<=(i:Int)+1:=by omega
 have aO:((i:Int)+1).toNat=i+1:=by omega
 have aQ:(i:Int)<=(n:Int):=by omega
 have aR: ¬(cap:Int)<(n:Int)+1:=by omega
 have aS:(n:Int)<=1000:=by omega
 have aT:(i:Int)+1<=(n:Int)+1:=by omega
 have aU: ¬cap=i:=by omega
 have aV: ¬cap=i+1:=by omega
 have aW:(i:Int)<=(n:Int)+1:=by omega
 have aM:(cap:Int)<=9223372036854775807:=by unfold maxLen at ac;omega
 clear ah ai ab H ad aa O av ag I an aj aG ae aH ak aI am Y U N ar aw aq ao ac
 go_enter func249,ntmps249
 go_wp2_with (simp only[aD])
 go_region_law_o (refine uH rfl (.tmp 73) (.tmp 76) 230 230 rfl _ _ (by simp[Act.eval,Act.put]) (by simp[Act.eval,Act.put]) (az.o _ (cap-(i+1)) (cap-i)) ?_)
 have ai:=aA.o;go_wp2;go_ret;exact al.o
end
section
open Go.RowKit Go.Lib
theorem KE (L:List Hd) (i:Nat) (hi:i<L.length) (h:Hd) (base:Nat) (w:World) (vb g cap:Nat) (ok:Vh L h (δ (some ⟨g,0,none⟩) L.length cap) base w vb) (bk:cap<L.length+1):
  Calls prog 249 #[δ (some ⟨g,0,none⟩) L.length cap,ι i,δ (some ⟨vb,0,none⟩) 1 1] w (JS L i h (δ (some ⟨g,0,none⟩) L.length cap) base w):=by
 obtain⟨row,bj,aZ,aL,bc⟩:=ok;obtain⟨bd,⟨aT,_⟩ | ⟨g',be,cur,e,bh,av,bb,aV,aW,aO⟩⟩:=row
 ·cases aT
 cases e;obtain⟨ak,ah,aP,ab,aD⟩:=info_parts (P:=prog) (e:=338) (z:= θ #[ι 0,ι 0,ι 0]) (size:=3) (bytes:=24) ξ;obtain⟨n,aB⟩:=ν (L.length);have Y:(hdC (L.take i)).length=i* 3:=by rw[yu,List.length_take];congr 1;omega
 have ag:(hdC (L.drop i)).length=(n-i)* 3:=by rw[yu,List.length_drop,aB]
 have au: ∀j u,(hdC L)[j]? =some u->w.cell? ⟨g,j,none⟩=some u:=by
  intro j u J;rw[cell_of_row w g _ cur _ (0,0) av];have aX:j<L.length* 3:=by rw[<-yu];exact(List.getElem?_eq_some_iff.1 J).1
  rw[<-aO,List.getElem?_take,if_pos aX] at J
  simpa using J
 have holds: ∀j u,(hdC (L.take i))[j]? =some u->w.cell? ((⟨g,0,none⟩:Addr).add j)=some u:=by
  intro j u J;rw[Addr.add_lit,Nat.zero_add];refine au j u ?_
  conv=>lhs;rw[<-List.take_append_drop i L,uT]
  rw[List.getElem?_append_left (List.getElem?_eq_some_iff.1 J).1];exact J
 have aN: ∀j u,(hdC (L.drop i))[j]? =some u->w.cell? ((⟨g,i* 3,none⟩:Addr).add j)=some u:=by
  intro j u J;rw[Addr.add_lit];refine au _ u ?_
  conv=>lhs;rw[<-List.take_append_drop i L,uT]
  rw[List.getElem?_append_right τ,Y,Nat.add_sub_cancel_left];exact J
 have aK:(Builtin.firstCells ak.size i (δ (some ⟨g,0,none⟩) i cap)).run prog w.drew= .ok (hdC (L.take i)).toArray w.drew:=by
  rw[ab];exact run_firstCells_some (w:=w.drew) 3 i ⟨g,0,none⟩ i cap (hdC (L.take i)) Y holds
 have ay:i+(n+1-i)=n+1:=by omega
 have aI:(n:Int)+1-(i:Int)=((n+1-i:Nat):Int):=by omega
 obtain⟨d,ac⟩: ∃d,d=grownCap w (n+1) cap 338:=⟨_,rfl⟩;obtain⟨H,aq⟩: ∃H:Array Value,H=(hdC (L.take i)).toArray++Builtin.zeroCells (θ #[ι 0,ι 0,ι 0]).cells (n+1-i)++Builtin.zeroCells (θ #[ι 0,ι 0,ι 0]).cells (d-(n+1)):=⟨_,rfl⟩;have aC: ∀I,(Builtin.append_ #[230,3] I #[δ (some ⟨g,0,none⟩) i cap,ι ((n:Int)+1-(i:Int))]).run prog w= .ok (δ (some ⟨w.heap.size,0,none⟩) (n+1) d) (w.drew.alloc (.cells H 338)):=λI=>by
  have h:=Lib.run_append_grow_zeros (P:=prog) w 230 3 I 338 ak _ .i64 .i64 underlying230 underlying3 ah aP (some ⟨g,0,none⟩) i cap (hdC (L.take i)) aK (n+1-i) τ (by rw[ab];decide) τ τ (by rw[aD];omega) (by rw[aD,ay];exact growslice_fits τ τ);rw[ay,<-ac,<-aq] at h;rw[aI];exact h
 have bg:n+1<=d:=by rw[ac];exact grownCap_ge w _ _ _
 have am:d<=maxLen:=by rw[ac];exact grownCap_le_maxLen w (n+1) cap 338 (by unfold maxLen;omega)
 obtain⟨U,ar⟩:=ν ((Builtin.zeroCells (θ #[ι 0,ι 0,ι 0]).cells (n+1-i)).toList);have aG:U.length=(n+1-i)* 3:=by rw[<-ar,Array.length_toList,size_zeroCells];rfl
 obtain⟨O,ao⟩:=ν ((Builtin.zeroCells (θ #[ι 0,ι 0,ι 0]).cells (d-(n+1))).toList);have aF:O.length=(d-(n+1))* 3:=by rw[<-ao,Array.length_toList,size_zeroCells];rfl
 have ap:H.toList=hdC (L.take i)++(U++O):=by
  rw[aq,Array.toList_append,Array.toList_append,ar,ao,List.append_assoc]
 obtain⟨Z,D,aH,aU⟩: ∃Z D,U++O=Z++D/\Z.length=3:=⟨(U++O).take 3,(U++O).drop 3,(List.take_append_drop 3 _).symm,by rw[List.length_take,List.length_append];omega⟩;have ad:H.toList.length=d* 3:=by rw[ap,List.length_append,List.length_append,Y,aG,aF];omega
 obtain⟨G,an⟩:=ν (w.heap.size);obtain⟨W1,ae⟩: ∃W1,W1=w.drew.alloc (.cells H 338):=⟨_,rfl⟩;have aw:W1.heap[G]? =some (.cells H 338 (0,0)):=by rw[ae];exact qC (w:=w.drew) an.symm
 have az:qa w W1:=by rw[ae];exact(qa.drewN w 1).al _
 have aj: ∀I N,(Builtin.copy_ #[230,230] I #[δ (some ⟨G,i* 3,none⟩) (n+1-i) N,δ (some ⟨vb,0,none⟩) 1 1]).run prog W1= .ok (ι 1) (W1.setRow G (xO H.toList (i* 3) (hd1 h)).toArray):=by
  intro I N;have aa:Nat.min 1 (n+1-i)=1:=by simp only[Nat.min_def];split<;>omega
  have:=yN (P:=prog) W1 230 I 338 ak underlying230 ah G (i* 3) (n+1-i) N H aw ⟨vb,0,none⟩ 1 1 (hd1 h) (by rw[aa,ab];rfl) (Qw (qc az aL)) (by rw[gE,<-Array.length_toList,ad];omega) (YF h);rw[aa] at this;rw[this];rfl
 obtain⟨W2,af⟩: ∃W2,W2=W1.setRow G (xO H.toList (i* 3) (hd1 h)).toArray:=⟨_,rfl⟩;have ax:W2.heap[G]? =some (.cells (xO H.toList (i* 3) (hd1 h)).toArray 338 (0,0)):=by rw[af];exact jM aw _
 have aA:qa w W2:=by rw[af];exact(qg.setRow W1 G _).to_more az (λk aY=>by omega)
 have ai:(xO H.toList (i* 3) (hd1 h)).length=d* 3:=by rw[ut (by rw[gE,ad];omega),ad]
 have aM: ∀I N sc,(Builtin.copy_ #[230,230] I #[δ (some ⟨G,(i+1)* 3,none⟩) (n-i) N,δ (some ⟨g,i* 3,none⟩) (n-i) sc]).run prog W2.drew= .ok (ι ((n-i:Nat):Int)) (W2.drew.setRow G (xO (xO H.toList (i* 3) (hd1 h)) ((i+1)* 3) (hdC (L.drop i))).toArray):=by
  intro I N sc;have aa:Nat.min (n-i) (n-i)=n-i:=Nat.min_self _
  have:=yN (P:=prog) W2.drew 230 I 338 ak underlying230 ah G ((i+1)* 3) (n-i) N _ ax ⟨g,i* 3,none⟩ (n-i) sc (hdC (L.drop i)) (by rw[aa,ab,ag]) (by
   intro j u J;have:=aN j u J;rw[Addr.add_lit] at this ⊢;show W2.cell? _=_;rw[aA.cells g _ (lt_of_block av)]
   exact this) (by rw[List.size_toArray,ai,ag];omega) (YE _)
  rw[aa] at this;rw[this];rfl
 have aE:Hid (JS L i h (δ (some ⟨g,0,none⟩) L.length cap) base w (.returned (δ (some ⟨G,0,none⟩) (n+1) d)) (W2.drew.setRow G (xO (xO H.toList (i* 3) (hd1 h)) ((i+1)* 3) (hdC (L.drop i))).toArray)):=κ (by
  have aJ:(L.take i++h::L.drop i).length=n+1:=by rw[List.length_append,List.length_cons,List.length_take,List.length_drop];omega
  have ba:qa w (W2.drew.setRow G (xO (xO H.toList (i* 3) (hd1 h)) ((i+1)* 3) (hdC (L.drop i))).toArray):=(qg.setRow W2.drew G _).to_more (aA.trans (qa.drewN W2 1)) (λk aY=>by omega);refine⟨_,rfl,⟨by rw[yu],Or.inr ⟨G,d,_,by rw[aJ],τ,jM (w:=W2.drew) ax _,τ,am, ?_, ?_⟩⟩,qg.of_more ba,Or.inr (by rw[an];rfl)⟩
  ·rw[List.size_toArray,ut (by rw[ai,ag];omega),ai]
  ·have:=Bh (A:=hdC (L.take i)) (Z:=Z) (D:=D) (X:=hdC (L.drop i)) (V:=hd1 h) (by rw[aU];rfl);rw[gE,Y,<-aH,<-ap,show i* 3+3=(i+1)* 3 by omega] at this;rw[aJ,<-aB];simp only[this]
   exact VM hi)
 rw[an,<-ae] at aC;rw[<-af] at aj;generalize W2.drew.setRow G (xO (xO H.toList (i* 3) (hd1 h)) ((i+1)* 3) (hdC (L.drop i))).toArray=W3 at *;rw[aB] at aE ⊢;have aS:=κ aC;have aQ:=κ aj;have aR:=κ aM;have mixed:prog.follows Departure.mixedOrders=true:=by kernel_rfl
 have bm:IntKind.i64.wrap ((i:Int)+1)=(i:Int)+1:=by rw[IntKind.wrap_i64];omega
 have bi:(0:Int)<=(i:Int)+1:=by omega
 have bl:((i:Int)+1).toNat=i+1:=by omega
 have bo:(i:Int)<=(n:Int):=by omega
 have bp:(cap:Int)<(n:Int)+1:=by omega
 have bq:(n:Int)<=1000:=by omega
 have br:(i:Int)+1<=(n:Int)+1:=by omega
 have bs: ¬cap=i:=by omega
 have bt: ¬d=i:=by omega
 have bu: ¬d=i+1:=by omega
 have bv:(i:Int)<=(n:Int)+1:=by omega
 have bn:(i:Int)<=(cap:Int):=by omega
 have bf:(d:Int)<=9223372036854775807:=by unfold maxLen at am;omega
 clear aC aj aM ag aw ax az aA ai aL av aW aO bd ah aP ab aD aH Y ae af bc bb aZ aV au holds aN aK ac aq ap ad ar ao aG aF aI ay am
 go_enter func249,ntmps249
 go_wp2_with (at_builtin;refine Lib.wpList_append_run _ rfl _ _ _ _ rfl _ _ rfl rfl _ _ (aS.o _) ?_;have aj:=aQ.o)
 go_region_law_o (refine uH rfl (.tmp 50) (.tmp 53) 230 230 rfl _ _ (by simp[Act.eval,Act.put]) (by simp[Act.eval,Act.put]) (aR.o _ (d-(i+1)) (cap-i)) ?_)
 go_wp2;go_ret;exact aE.o
end
section
open Go.RowKit Go.Lib
theorem Wk (L:List Hd) (i:Nat) (hi:i<=L.length) (h:Hd) (v:Value) (base:Nat) (w:World) (vb:Nat) (d:Vh L h v base w vb):
  Calls prog 249 #[v,ι i,δ (some ⟨vb,0,none⟩) 1 1] w (JS L i h v base w):=by
 by_cases e:i=L.length
 ·subst e;exact Wj L h v base w vb d
 ·rcases d.row.2 with ⟨_,G⟩ | ⟨g,cap,_,rfl,_⟩
  ·omega
  ·by_cases hc:L.length+1<=cap
   ·exact Vb L i τ h base w vb g cap d hc
   ·exact KE L i τ h base w vb g cap d τ
structure Jb where
 room:Int
 wait:Int
 holds:List Hd
 begun:Bool
 hi:Int
 bits:Int
def yc (b:Jb) (v:Value):Array Value:= #[.int .i64 b.room,.int .i64 b.wait,v,.bool b.begun,.int .i64 b.hi,.int .u64 b.bits]
structure xZ (w:World) (R:Nat) (v:Value) (b:Jb):Prop where
 blk:w.heap[R]? =some (.cells (yc b v) 235 (0,0))
 row:zT w (R+1) v b.holds
theorem xZ.on {w w':World} {R:Nat} {v:Value} {b:Jb} (h:xZ w R v b) (m:qa w w'):xZ w' R v b:=⟨qc m h.blk,h.row.more m⟩
theorem xZ.cells {w:World} {R:Nat} {v:Value} {b:Jb} (h:xZ w R v b): ∀x:qt w,x.w'.cell? ⟨R,0,none⟩=some (ι b.room)/\x.w'.cell? ⟨R,1,none⟩=some (ι b.wait)/\x.w'.cell? ⟨R,2,none⟩=some v/\x.w'.cell? ⟨R,3,none⟩=some (μ b.begun)/\x.w'.cell? ⟨R,4,none⟩=some (ι b.hi)/\x.w'.cell? ⟨R,5,none⟩=some (ψ b.bits):=λx=>
 have k:=qc x.h h.blk
 ⟨qb k 0 rfl,qb k 1 rfl,qb k 2 rfl,qb k 3 rfl,qb k 4 rfl,qb k 5 rfl⟩
abbrev xz (n:Int):Prop:=0<=n/\n<=1152921504606846976
structure JOK (b:Jb):Prop where
 room:1<=b.room/\b.room<=8
 wait:0<=b.wait/\b.wait<=1000
 fits:(b.holds.length:Int)<=b.room
 nums: ∀h∈b.holds,xz h.1/\xz h.2.1
 rise:b.holds.Pairwise λa c=>a.1<c.1
 hi:xz b.hi
 bits:U64 b.bits
 over:b.begun=true-> ∀h∈b.holds,b.hi<h.1
theorem Dp (n:Int) (B:Nat) (x:Hd) (w:World) (d:w.heap[B]? =some (.cells #[ι n] 2 (0,0))):
  Calls prog 246 #[θ #[ι x.1,ι x.2.1,ι x.2.2],γ B] w λe w'=>e= .returned (μ (x.1==n))/\qa w w':=by
 obtain⟨G,H,I⟩:=x;have J:(w.alloc (.cells #[ι G,ι H,ι I] 338)).cell? ⟨B,0,none⟩=some (ι n):=qb (qs d _) 0 rfl;clear d
 go_enter func246,ntmps246
 go_wp2;go_ret;exact⟨rfl,qa.alloc _ _⟩
theorem Wp (n:Int) (B:Nat) (x:Hd) (w:World) (d:w.heap[B]? =some (.cells #[ι n] 2 (0,0))):
  Calls prog 247 #[θ #[ι x.1,ι x.2.1,ι x.2.2],γ B] w λe w'=>e= .returned (μ (decide (n<x.1)))/\qa w w':=by
 obtain⟨G,H,I⟩:=x;have J:(w.alloc (.cells #[ι G,ι H,ι I] 338)).cell? ⟨B,0,none⟩=some (ι n):=qb (qs d _) 0 rfl;clear d
 go_enter func247,ntmps247
 go_wp2;go_ret;exact⟨rfl,qa.alloc _ _⟩
theorem FT (b:Jb) (R:Nat) (v:Value) (w:World) (h:xZ w R v b):
  Calls prog 65 #[γ R] w λe w'=>e= .returned (ι b.holds.length)/\w=w':=by
 obtain⟨d,c1,c2,c3,c4,c5⟩:=h.cells ⟨w,qa.refl _⟩;obtain⟨H,cap,rfl,G⟩:=h.row.shape;clear h
 go_enter func65,ntmps65
 go_wp2;go_ret;exact⟨rfl,rfl⟩
theorem ux (b:Jb) (R:Nat) (v:Value) (w:World) (h:xZ w R v b) (d:xz b.hi):
  Calls prog 172 #[γ R] w λe w'=>e= .returned (.tuple #[ι (if b.begun then b.hi+1 else 0),b.begun])/\w=w':=by
 obtain⟨G,c1,c2,c3,c4,c5⟩:=h.cells ⟨w,qa.refl _⟩;obtain⟨H,I⟩:=d;clear h;cases hb:b.begun with
 | true=>
  rw[hb] at c3
  go_enter func172,ntmps172
  go_wp2
  go_ret2
  exact⟨rfl,rfl⟩
 | false=>
  rw[hb] at c3
  go_enter func172,ntmps172
  go_wp2
  go_ret2
  exact⟨rfl,rfl⟩
end
section
open Go.RowKit Go.Lib
def zX (b:Jb) (now:Int) (h:Hd):Bool:=decide (b.wait<=now-h.2.1)
def xa (b:Jb) (now:Int):Bool:=match b.holds with
 | []=>false
 | h::_=> !b.begun||h.1==b.hi+1||decide (b.room<=b.holds.length)||b.holds.any (zX b now)
theorem U7 (b:Jb) (R:Nat) (v:Value) (H:Int) (af:xz H) (U O:Nat) (x:Hd) (ah:xz x.2.1) (w:World) (h:xZ w R v b)
  (aa:w.heap[U]? =some (.cells #[ι H] 2 (0,0))) (Y:w.heap[O]? =some (.cells #[γ R] 131 (0,0))):
  Calls prog 171 #[θ #[ι x.1,ι x.2.1,ι x.2.2],γ U,γ O] w λe w'=>e= .returned (μ (zX b H x))/\qa w w':=by
 obtain⟨I,J,N⟩:=x;obtain⟨ad,ae⟩:=ah;obtain⟨ak,al⟩:=af;simp only at ad ae;have d:=qa.alloc w (.cells #[ι I,ι J,ι N] 338);obtain⟨W,G⟩: ∃W,W=w.alloc (.cells #[ι I,ι J,ι N] 338):=⟨_,rfl⟩;have ab:W.heap[w.heap.size]? =some (.cells #[ι I,ι J,ι N] 338 (0,0)):=by rw[G];exact qj w _
 rw[<-G] at d;have c1: ∀x:qt W,x.w'.cell? ⟨R,1,none⟩=some (ι b.wait):=λx=>((h.on d).cells x).2.1
 have c3:=λ(x:qt W)=>β0 (qc (d.trans x.h) aa)
 have c2:=λ(x:qt W)=>β0 (qc (d.trans x.h) Y)
 have aj:=λ(x:qt W)=>β1 (qc x.h ab)
 have ac:=κ d;clear h aa Y ab d
 go_enter func171,ntmps171
 go_wp2_with fail
 rw[<-G];clear G;generalize w.heap.size=BX at *;refine qD W (qa.refl _) ξ ξ ?_
 repeat (go_big_quiet_step (fail))
 refine wpQuiet_nil ?_;intro _ ag;obtain⟨ai,rfl⟩:=ag;go_wp2;go_ret;exact⟨rfl,ac.o.trans ai.h⟩
theorem Z7 (b:Jb) (ok:JOK b) (R:Nat) (v:Value) (d:Int) (aD:xz d) (w:World) (h:xZ w R v b):
  Calls prog 119 #[γ R,ι d] w λe w'=>e= .returned (μ (xa b d))/\qa w w':=by
 obtain⟨W,G⟩: ∃W,W=(w.alloc (.cells #[γ R] 131)).alloc (.cells #[ι d] 2):=⟨_,rfl⟩;have ak:qa w W:=by rw[G];exact(qa.alloc w _).al _
 have ah:W.heap[w.heap.size]? =some (.cells #[γ R] 131 (0,0)):=by rw[G];exact qs (qj w _) _
 have ao:W.heap[w.heap.size+1]? =some (.cells #[ι d] 2 (0,0)):=by rw[G];exact qC η
 have I:=κ (h.on ak);have aH: ∀x:qt W,x.w'.cell? ⟨R,0,none⟩=some (ι b.room):=λx=>(I.o.cells x).1
 have c2: ∀x:qt W,x.w'.cell? ⟨R,2,none⟩=some v:=λx=>(I.o.cells x).2.2.1
 have ap:W.cell? ⟨R,2,none⟩=some v:=(I.o.cells ⟨W,qa.refl _⟩).2.2.1;have ay:=λ(x:qt W)=>β0 (qc x.h ah)
 have aJ:w.heap.size≠R:=λe=>by have:=lt_of_block h.blk;omega
 have ad:=κ ak;have O:=κ I.o.row;have am:Hid (ZA 171 #[γ (w.heap.size+1),γ w.heap.size] (zX b d) b.holds W):=κ λW' x aq m=>
  U7 b R v d aD _ _ x (ok.nums x aq).2 W' (I.o.on m) (qc m ao) (qc m ah)
 obtain⟨av,cap,rfl,aB⟩:=I.o.row.shape;obtain⟨aN,aO⟩:=ok.room;have az:=ok.fits;obtain⟨ai,aj⟩:=ok.hi;clear h;have H:Hid (xZ ((w.alloc (.cells #[γ R] 131)).alloc (.cells #[ι d] 2)) R (δ av b.holds.length cap) b):=κ (G▸I.o);have ab:((w.alloc (.cells #[γ R] 131)).alloc (.cells #[ι d] 2)).cell? ⟨R,2,none⟩=some (δ av b.holds.length cap):=G▸ap;cases hbh:b.holds with
 | nil=>
  have ae:xa b d=false:=by unfold xa;rw[hbh]
  have J:=κ ae;have aw:Hid (qa w ((w.alloc (.cells #[γ R] 131)).alloc (.cells #[ι d] 2))):=κ (G▸ad.o);rw[hbh,List.length_nil] at ab;clear ae am O ah ao ak c2 ap ay G
  go_enter func119,ntmps119
  go_wp2;go_ret;exact⟨by rw[J.o];rfl,aw.o⟩
 | cons k T=>
  have aC:b.holds.length=T.length+1:=by rw[hbh];rfl
  obtain⟨g,aI,e,aA,aM,au⟩:=O.o.cell 0 τ;cases e;have aK: ∀x:qt W,x.w'.cell? ⟨g,0,none⟩=some (ι k.1):=λx=>by
   have:=(au _ x.h).1;rw[Nat.zero_mul,hbh] at this;exact this
  have ae:xa b d=(!b.begun||k.1==b.hi+1||decide (b.room<=b.holds.length)||b.holds.any (zX b d)):=by unfold xa;rw[hbh]
  have J:=κ ae;have aE: ¬(b.holds.length:Int)=0:=by omega
  have aF:(0:Int)<(b.holds.length:Int):=by omega
  clear ae au ah ao ak ap hbh aC aA;obtain⟨an,ar⟩:=ν (b.holds.length);rw[ar] at c2 ab J aE aF aB az H O;clear ar;generalize k.1=K1 at *;have ag:Hid (∀W',qa W W'->ZA 171 #[γ (w.heap.size+1),γ w.heap.size] (zX b d) b.holds W'):=κ λW' m ax x aq aG=>am.o ax x aq (m.trans aG)
  have af: ∀args w,(callFunc 171 args).run prog w= .ok (.enter 171 args) w:=λargs w=>by kernel_rfl
  clear am;cases hbg:b.begun with
  | false=>
   have ac:=κ hbg;have N:Hid (xa b d=true):=κ (by rw[J.o,hbg];rfl);clear hbg J
   go_enter func119,ntmps119
   go_wp2_with (go_at_call 172;(go_call ux b R _ _ H.o ⟨ai,aj⟩ as e w1 ⟨rfl,rfl⟩;rw[ac.o]))
   rw[<-G];clear G H ab;generalize w.heap.size=B2 at *;refine qD W (qa.refl _) ξ ξ ?_
   repeat (go_big_quiet_step ((go_at_call 173;with_reducible exact j6 (xt _ _ (zX b d) af b.holds _ (R+1) _ (O.o.more (qt.h _)) (ag.o _ (qt.h _))))))
   refine wpQuiet_nil ?_;intro _ U;obtain⟨Y,rfl⟩:=U;go_wp2;go_ret;exact⟨by rw[N.o];rfl,ad.o.trans Y.h⟩
  | true=>
   have ac:=κ hbg;have aa:Hid (xa b d=(K1==b.hi+1||decide (b.room<=(an:Int))||b.holds.any (zX b d))):=κ (by rw[J.o,hbg];rfl);clear hbg J;cases hk:(K1==b.hi+1) with
   | true=>
    have N:Hid (xa b d=true):=κ (by rw[aa.o,hk];rfl);clear aa
    go_enter func119,ntmps119
    go_wp2_with (go_at_call 172;(go_call ux b R _ _ H.o ⟨ai,aj⟩ as e w1 ⟨rfl,rfl⟩;rw[ac.o]))
    rw[<-G];clear G H ab;generalize w.heap.size=B2 at *;refine qD W (qa.refl _) ξ ξ ?_
    repeat (go_big_quiet_step ((go_at_call 173;with_reducible exact j6 (xt _ _ (zX b d) af b.holds _ (R+1) _ (O.o.more (qt.h _)) (ag.o _ (qt.h _))))))
    refine wpQuiet_nil ?_;intro _ U;obtain⟨Y,rfl⟩:=U;go_wp2;go_ret;exact⟨by rw[N.o];rfl,ad.o.trans Y.h⟩
   | false=>
    by_cases hf:b.room<=(an:Int)
    ·have N:Hid (xa b d=true):=κ (by rw[aa.o,hk,decide_eq_true hf];rfl);clear aa
     go_enter func119,ntmps119
     go_wp2_with (go_at_call 172;(go_call ux b R _ _ H.o ⟨ai,aj⟩ as e w1 ⟨rfl,rfl⟩;rw[ac.o]))
     rw[<-G];clear G H ab;generalize w.heap.size=B2 at *;refine qD W (qa.refl _) ξ ξ ?_
     repeat (go_big_quiet_step ((go_at_call 173;with_reducible exact j6 (xt _ _ (zX b d) af b.holds _ (R+1) _ (O.o.more (qt.h _)) (ag.o _ (qt.h _))))))
     refine wpQuiet_nil ?_;intro _ U;obtain⟨Y,rfl⟩:=U;go_wp2;go_ret;exact⟨by rw[N.o];rfl,ad.o.trans Y.h⟩
    ·have N:Hid (xa b d=b.holds.any (zX b d)):=κ (by rw[aa.o,hk,decide_eq_false hf];rfl);have aL:decide (b.room<=(an:Int))=false:=decide_eq_false hf;clear aa hf
     go_enter func119,ntmps119
     go_wp2_with (go_at_call 172;(go_call ux b R _ _ H.o ⟨ai,aj⟩ as e w1 ⟨rfl,rfl⟩;rw[ac.o]))
     rw[<-G];clear G H ab;generalize w.heap.size=B2 at *;refine qD W (qa.refl _) ξ ξ ?_
     repeat (go_big_quiet_step ((go_at_call 173;with_reducible exact j6 (xt _ _ (zX b d) af b.holds _ (R+1) _ (O.o.more (qt.h _)) (ag.o _ (qt.h _))))))
     refine wpQuiet_nil ?_;intro _ U;obtain⟨Y,rfl⟩:=U;go_wp2;go_ret;exact⟨by rw[N.o];rfl,ad.o.trans Y.h⟩
end
section
open Go.RowKit Go.Lib
def wK (b:Jb) (n:Int):Int×Int:=if b.begun then zt b.hi b.bits n else (n,1)
def xT (b:Jb):Jb:=match b.holds with
 | []=>b
 | h::T=>{b with holds:=T,begun:=true,hi:=(wK b h.1).1,bits:=(wK b h.1).2}
theorem uY {n:Int} (h:xz n):Mid n:=by obtain⟨d,G⟩:=h;unfold Mid;omega
structure PS (w w':World) (R:Nat) (v v':Value) (b':Jb):Prop where
 buf:xZ w' R v' b'
 away:qg (λk=>k=R∨v.ownBlock=some k) w w'
 own:v'.ownBlock=v.ownBlock∨ ∃g,v'.ownBlock=some g/\w.heap.size<=g
theorem zT.away {w w':World} {base:Nat} {v:Value} {L:List Hd} {S:Nat->Prop} (h:zT w base v L) (a:qg S w w') (H: ∀k,v.ownBlock=some k-> ¬S k):zT w' base v L:=by
 obtain⟨d,G⟩:=h;refine⟨d, ?_⟩;rcases G with h | ⟨g,cap,cur,e1,hb,hg,rest⟩
 ·exact Or.inl h
 ·exact Or.inr ⟨g,cap,cur,e1,hb,a.blk hg (H g (by rw[e1];rfl)),rest⟩
theorem qg.old {w a b:World} {S S':Nat->Prop} (m:qa w a) (h:qg S a b) (H: ∀k,S k->S' k∨w.heap.size<=k):qg S' w b:=
 ⟨h.os.trans m.os,h.tape.trans m.tape,h.output.trans m.output,Nat.le_trans m.size h.size,λk d G=>by
  rw[h.block k (Nat.lt_of_lt_of_le d m.size) (λx=>(H k x).elim G (λy=>by omega))]
  exact m.block k d⟩
theorem zT.own_ge {w:World} {base:Nat} {v:Value} {L:List Hd} (h:zT w base v L) {k:Nat} (d:v.ownBlock=some k):base<=k/\k<w.heap.size:=by
 rcases h.2 with ⟨rfl,_⟩ | ⟨g,cap,cur,rfl,G,H,_⟩
 ·cases d
 ·obtain rfl:g=k:=by injection d
  exact⟨G,lt_of_block H⟩
theorem AK (w:World) (B:Nat) (v0 v1 v2:Value):qg (λk=>k=B) w (((w.setCell ⟨B,0,none⟩ v0).setCell ⟨B,1,none⟩ v1).setCell ⟨B,2,none⟩ v2):=
 (((qg.refl (λk=>k=B) w).set (p:=⟨B,0,none⟩) rfl v0).set (p:=⟨B,1,none⟩) rfl v1).set (p:=⟨B,2,none⟩) rfl v2
theorem ZQ {w w5:World} {R G g I cap J:Nat} {U:Option Addr} {b:Jb} {T:List Hd} {H N O ac aa:Int} {X:Value} (ai:b.holds=(H,N,O)::T) (aq:wK b H=(ac,aa))
  (ak:w5.heap[R]? =some (.cells ((yc b X).setIfInBounds 2 (δ U I J)) 235 (0,0))) (al:w5.heap[G]? =some (.cells #[ι 0,ι 0,ι 0] 338 (0,0)))
  (am:zT w5 (R+1) (δ U I J) T) (ad:(δ U I J).ownBlock=some g) (aj:qg (λk=>k=R∨k=g) w w5) (ar:w.heap.size<=G) (au:R<w.heap.size) (av:g≠R) (aw:g<w.heap.size)
  {WF:World} (e:((((((w5.setCell ⟨R,4,none⟩ (ι ac)).setCell ⟨R,5,none⟩ (ψ aa)).setCell ⟨R,3,none⟩ (μ true)).setCell ⟨G,0,none⟩ (ι H)).setCell ⟨G,1,none⟩ (ι N)).setCell ⟨G,2,none⟩ (ι O))=WF):
  WF.cell? ⟨G,0,none⟩=some (ι H)/\WF.cell? ⟨G,1,none⟩=some (ι N)/\WF.cell? ⟨G,2,none⟩=some (ι O)/\PS w WF R (δ (some ⟨g,0,none⟩) (I+1) cap) (δ U I J) (xT b):=by
 obtain⟨w6,af⟩:=ν (((w5.setCell ⟨R,4,none⟩ (ι ac)).setCell ⟨R,5,none⟩ (ψ aa)).setCell ⟨R,3,none⟩ (μ true));rw[af] at e;have ag:=qp (qp (qp ak 4 (ι ac)) 5 (ψ aa)) 3 (μ true);rw[af] at ag;have ae:qg (λk=>k=R) w5 w6:=by
  rw[<-af];exact(((qg.refl (λk=>k=R) w5).set (p:=⟨R,4,none⟩) rfl _).set (p:=⟨R,5,none⟩) rfl _).set (p:=⟨R,3,none⟩) rfl _
 have ah:R≠G:=by omega
 have ap:=ae.blk al (λx=>ah x.symm);have Y:=AK w6 G (ι H) (ι N) (ι O);have ab:=qp (qp (qp ap 0 (ι H)) 1 (ι N)) 2 (ι O);rw[e] at Y ab;have ao:=Y.blk ag ah;refine⟨qb ab 0 rfl,qb ab 1 rfl,qb ab 2 rfl,⟨qB ao ?_, ?_⟩, ?_,Or.inl (by rw[ad];rfl)⟩
 ·simp only[xT,ai,aq];rfl
 ·have:zT WF (R+1) (δ U I J) T:=(am.away ae (λk d x=>by rw[ad] at d;injection d with d;omega)).away Y (λk d x=>by rw[ad] at d;injection d with d;omega);simp only[xT,ai];exact this
 ·have an:qg (λk=>k=R∨k=g∨k=G) w WF:=(aj.mono λk d=>d.elim Or.inl (λx=>Or.inr (Or.inl x))).trans ((ae.mono λk d=>Or.inl d).trans (Y.mono λk d=>Or.inr (Or.inr d)));refine qg.old (qa.refl w) an λk d=> ?_
  rcases d with d | d | d
  ·exact Or.inl (Or.inl d)
  ·exact Or.inl (Or.inr (by rw[d];rfl))
  ·exact Or.inr τ
theorem Z9 (b:Jb) (h:Hd) (T:List Hd) (au:b.holds=h::T) (aM:JOK b) (R:Nat) (v:Value) (w:World) (an:xZ w R v b):
  Calls prog 178 #[γ R] w λe w'=>e= .returned (θ #[ι h.1,ι h.2.1,ι h.2.2])/\ ∃v',PS w w' R v v' (xT b):=by
 obtain⟨I,aa,ab⟩:=h;have bC:=(aM.nums (I,aa,ab) (by rw[au];exact List.mem_cons_self)).1;have bA:=uY bC;have bB:=uY aM.hi;have bz:b.holds.length=T.length+1:=by rw[au];rfl
 obtain⟨W2,ax⟩: ∃W2,W2=(w.alloc (.cells #[ι 0,ι 0,ι 0] 338)).alloc (.cells #[ι I,ι aa,ι ab] 338):=⟨_,rfl⟩;have ay:qa w W2:=by rw[ax];exact(qa.alloc w _).al _
 have aw:=an.row;rw[au] at aw;obtain⟨g,cap,rfl,bM,bd,bc⟩:=aw.cell 0 η;obtain⟨bu,bv,bw⟩:=bc _ (qa.alloc w (.cells #[ι 0,ι 0,ι 0] 338));rw[Nat.zero_mul] at bu bv bw;have bp:=(an.on (qa.alloc w (.cells #[ι 0,ι 0,ι 0] 338))).cells ⟨_,qa.refl _⟩;obtain⟨_,_,aY,_,_,_⟩:=bp;have bq:=(an.on ((qa.alloc w (.cells #[ι 0,ι 0,ι 0] 338)).al (.cells #[ι I,ι aa,ι ab] 338))).cells ⟨_,qa.refl _⟩;obtain⟨_,_,aZ,_,_,_⟩:=bq;have av:=κ (aw.more ay);have aF:=κ (an.on ay);have be:W2.heap[w.heap.size]? =some (.cells #[ι 0,ι 0,ι 0] 338 (0,0)):=by rw[ax];exact qs (qj w _) _
 have bf:W2.heap[w.heap.size+1]? =some (.cells #[ι I,ι aa,ι ab] 338 (0,0)):=by rw[ax];exact qC η
 rw[List.length_cons] at aY aZ av aF ⊢;have aK:g≠R:=by omega
 have bb:=lt_of_block an.blk;have bl:=κ ay;have bm:=κ be;have bn:=κ bf;obtain⟨d,aL⟩:=ν (T.length);rw[aL] at aY aZ av aF ⊢
 have aV:Hid (∀w',w'=W2->Calls prog 235 #[δ (some ⟨g,0,none⟩) (d+1) cap,ι 0,ι 1] w' λe Y=> ∃J H,e= .returned (δ J d H)/\zT Y (R+1) (δ J d H) T/\
   Y.heap[R]? =some (.cells (yc b (δ (some ⟨g,0,none⟩) (d+1) cap)) 235 (0,0))/\Y.heap[w.heap.size]? =some (.cells #[ι 0,ι 0,ι 0] 338 (0,0))/\Y.heap[w.heap.size+1]? =some (.cells #[ι I,ι aa,ι ab] 338 (0,0))/\
   qg (λk=>k=g) w Y/\(δ J d H).ownBlock=some g):=κ λw' e=>by
  subst e;refine(Vc (I,aa,ab) T _ (R+1) _ av.o).mono ?_;rintro e Y ⟨v3,rfl,ae,a3,ah⟩;obtain⟨J,H,rfl,_⟩:=ae.shape;rw[aL] at ae ah ⊢;have key: ∀k,(δ (some ⟨g,0,none⟩) (d+1) cap).ownBlock=some k->k=g:=λk U=>by injection U with U;exact U.symm
  have bx:w'.heap[R]? =some (.cells (yc b (δ (some ⟨g,0,none⟩) (d+1) cap)) 235 (0,0)):=aF.o.blk;exact⟨J,H,rfl,ae,a3.blk bx (λx=>aK (key _ x).symm),a3.blk bm.o (λx=>by have:=key _ x;omega),a3.blk bn.o (λx=>by have:=key _ x;omega),qg.old bl.o a3 (λk U=>Or.inl (key _ U)),ah⟩
 have aX:=κ ax;have aU:=κ au;clear bc av ay be bf au bz aw aL;cases hbg:b.begun with
 | false=>
  have ai:=κ hbg;clear hbg
  go_enter func178,ntmps178
  go_wp2_with (first | (go_at_call 235;(go_call aV.o _ aX.o.symm as e Y ⟨J,H,rfl,ae,N,ap,aj,a3,ah⟩;have aA:=κ N;have aC:=κ ap;have aD:=κ aj;have aH:=κ ae;have az:=κ a3;have ao:=κ ah;unfold yc at N;rw[ai.o] at N;have aQ:=qb N 2 rfl;have aT:=qd N 2;have aR:=qb N 3 rfl;have z3:=qd N 3;have aS:=qb aj 0 rfl;clear N ap aj a3 ah ae)) | (go_at_call 237;(go_call Ya I _ as e w5 ⟨rfl,ag⟩;have G:=qc ag (qp aA.o 2 (δ J d H));have O:=qc ag (qo aC.o ⟨R,2,none⟩ (δ J d H) (by simp;omega));have ad:=qc ag (qo aD.o ⟨R,2,none⟩ (δ J d H) (by simp;omega));have aB:=κ G;have aE:=κ O;have bL:=κ ad;have ac:=κ ag;unfold yc at G;rw[ai.o] at G;have bI:=qb G 3 rfl;have bJ:=qb G 4 rfl;have bK:=qb G 5 rfl;have bD:=qd G 3;have bE:=qd G 4;have bF:=qd G 5;have bG:=qb O 0 rfl;have bH:=qb O 1 rfl;have p2:=qb O 2 rfl;have br:=qd O 0;have bs:=qd O 1;have bt:=qd O 2;have t0:=qb ad 0 rfl;have t1:=qb ad 1 rfl;have t2:=qb ad 2 rfl;clear G O ad ag aQ aT aR z3 aS)))
  have ar:zT w5 (R+1) (δ J d H) T:=(aH.o.away ((qg.refl (λk=>k=R) Y).set (p:=⟨R,2,none⟩) rfl (δ J d H)) (λk U x=>by rw[ao.o] at U;injection U with U;omega)).more ac.o;have aq:qg (λk=>k=R∨k=g) w w5:=((az.o.mono λk U=>Or.inr U).trans ((qg.refl (λk=>k=R∨k=g) Y).set (p:=⟨R,2,none⟩) (Or.inl rfl) (δ J d H))).more ac.o;obtain⟨WF,ak⟩:=ν (((((((w5.setCell ⟨R,4,none⟩ (ι I)).setCell ⟨R,5,none⟩ (ψ 1)).setCell ⟨R,3,none⟩ (μ true)).setCell ⟨w.heap.size,0,none⟩ (ι I)).setCell ⟨w.heap.size,1,none⟩ (ι aa)).setCell ⟨w.heap.size,2,none⟩ (ι ab)));obtain⟨aN,aO,aP,st⟩:=ZQ (cap:=cap) aU.o (show wK b I=(I,1) by unfold wK;rw[ai.o];rfl) aB.o aE.o ar ao.o aq (Nat.le_refl _) bb aK bd ak;rw[ak];clear ak ar aq
  (refine bodyPost_ret (v:= θ #[ι I,ι aa,ι ab]) ?rr1 rfl ?_;(case rr1=>(simp[results,results178,go_sem,aN,aO,aP])))
  exact⟨rfl,_,st⟩
 | true=>
  have ai:=κ hbg;clear hbg
  go_enter func178,ntmps178
  go_wp2_with (go_at_call 235;(go_call aV.o _ aX.o.symm as e Y ⟨J,H,rfl,ae,N,ap,aj,a3,ah⟩;have aA:=κ N;have aC:=κ ap;have aD:=κ aj;have aH:=κ ae;have az:=κ a3;have ao:=κ ah;unfold yc at N;rw[ai.o] at N;have aQ:=qb N 2 rfl;have aT:=qd N 2;have aR:=qb N 3 rfl;have z3:=qd N 3;have aS:=qb aj 0 rfl;clear N ap aj a3 ah ae))
  generalize am:Y.setCell ⟨R,2,none⟩ (δ J d H)=w4 at *;have aI:w4.heap[R]? =some (.cells ((yc b (δ (some ⟨g,0,none⟩) (d+1) cap)).setIfInBounds 2 (δ J d H)) 235 (0,0)):=by rw[<-am];exact qp aA.o 2 _
  have ba:w4.heap[w.heap.size]? =some (.cells #[ι 0,ι 0,ι 0] 338 (0,0)):=by rw[<-am];exact qo aC.o ⟨R,2,none⟩ (δ J d H) (by simp;omega)
  have aJ:w4.heap[w.heap.size+1]? =some (.cells #[ι I,ι aa,ι ab] 338 (0,0)):=by rw[<-am];exact qo aD.o ⟨R,2,none⟩ (δ J d H) (by simp;omega)
  have bg:zT w4 (R+1) (δ J d H) T:=by
   rw[<-am];exact aH.o.away ((qg.refl (λk=>k=R) Y).set (p:=⟨R,2,none⟩) rfl (δ J d H)) (λk U x=>by rw[ao.o] at U;injection U with U;omega)
  have a4:qg (λk=>k=R∨k=g) w w4:=by
   rw[<-am];exact(az.o.mono λk U=>Or.inr U).trans ((qg.refl (λk=>k=R∨k=g) Y).set (p:=⟨R,2,none⟩) (Or.inl rfl) (δ J d H))
  have bi:=κ aI;have bj:=κ ba;have bk:=κ aJ;have bo:=κ bg;have bh:=κ a4;have aG:=λ(x:qt w4)=>qc x.h aI
  have c4:=λx=>β4 (aG x);have c5:=λx=>β5 (aG x);clear aG
  have c1:=λ(x:qt w4)=>β0 (qc x.h aJ)
  clear aI ba aJ bg a4 am aQ aT aR z3 aS;refine Qn w4 10 11 [7,8,10] ?_
  refine Qq7 ?_
  (refine Ql ?_;intro K af)
  refine(gS b.hi b.bits I bB bA aM.bits _).mono ?_;rintro e w5 ⟨rfl,ag⟩;have ac:qa w4 w5:=(qa.drewN w4 1).trans ag;refine⟨_,rfl,qk ac,af _ _ ?_⟩;clear af K ag
  (refine Ql ?_;intro K af)
  refine⟨qk ac,af _ _ ?_⟩;clear af K
  refine Qq1 ?_
  have G:=qc ac bi.o;have O:=qc ac bj.o;have ad:=qc ac bk.o;have aB:=κ G;have aE:=κ O;have aW:=κ ac;unfold yc at G;rw[ai.o] at G;have bI:=qb G 3 rfl;have bJ:=qb G 4 rfl;have bK:=qb G 5 rfl;have bD:=qd G 3;have bE:=qd G 4;have bF:=qd G 5;have bG:=qb O 0 rfl;have bH:=qb O 1 rfl;have p2:=qb O 2 rfl;have br:=qd O 0;have bs:=qd O 1;have bt:=qd O 2;have t0:=qb ad 0 rfl;have t1:=qb ad 1 rfl;have t2:=qb ad 2 rfl;clear G O ad ac c4 c5 c1
  (refine Qe ?_;intro K af)
  refine af _ _ ?_;clear af K;refine qA ?_;go_wp2;have ar:zT w5 (R+1) (δ J d H) T:=bo.o.more aW.o;have aq:qg (λk=>k=R∨k=g) w w5:=bh.o.more aW.o;obtain⟨WF,ak⟩:=ν (((((((w5.setCell ⟨R,4,none⟩ (ι (zt b.hi b.bits I).1)).setCell ⟨R,5,none⟩ (ψ (zt b.hi b.bits I).2)).setCell ⟨R,3,none⟩ (μ true)).setCell ⟨w.heap.size,0,none⟩ (ι I)).setCell ⟨w.heap.size,1,none⟩ (ι aa)).setCell ⟨w.heap.size,2,none⟩ (ι ab)));obtain⟨aN,aO,aP,st⟩:=ZQ (cap:=cap) aU.o (show wK b I=((zt b.hi b.bits I).1,(zt b.hi b.bits I).2) by unfold wK;rw[ai.o];rfl) aB.o aE.o ar ao.o aq (Nat.le_refl _) bb aK bd ak;rw[ak];clear ak ar aq
  (refine bodyPost_ret (v:= θ #[ι I,ι aa,ι ab]) ?rr2 rfl ?_;(case rr2=>(simp[results,results178,go_sem,aN,aO,aP])))
  exact⟨rfl,_,st⟩
end
section
open Go.RowKit Go.Lib
def atJ (L:List Hd) (n:Int):Nat:=L.findIdx λk=>decide (n<k.1)
def ue (L:List Hd) (h:Hd):List Hd:=L.take (atJ L h.1)++h::L.drop (atJ L h.1)
def JM (b:Jb) (n:Int):Bool:=b.holds.any λk=>k.1==n
def jP (b:Jb) (n now x:Int):Jb×Int:=
 if JM b n||(b.begun&&yi b.hi b.bits n) then (b,10)
 else if b.begun&&decide (n<b.hi+1) then (b,9)
 else if b.room<=b.holds.length then (b,8)
 else ({b with holds:=ue b.holds (n,now,x)},0)
theorem Ua (L:List Hd) (n:Int):atJ L n<=L.length:=List.findIdx_le_length
theorem Fx (L:List Hd) (n:Int):(Jk (λk=>decide (n<k.1)) L=(atJ L n:Int)/\atJ L n<L.length)∨(Jk (λk=>decide (n<k.1)) L= -1/\atJ L n=L.length):=by
 unfold Jk;have:=Ua L n;unfold atJ at *;by_cases h:L.findIdx (λk=>decide (n<k.1))<L.length
 ·left;rw[if_pos h];exact⟨rfl,h⟩
 ·right;rw[if_neg h];exact⟨rfl,τ⟩
theorem PS.keep {w w':World} {R:Nat} {v:Value} {b:Jb} (m:qa w w') (d:xZ w' R v b):PS w w' R v v b:=⟨d,qg.of_more m,Or.inl rfl⟩
end
end Go.Proofs.YtlmllmonabafjaaGreatDoor
