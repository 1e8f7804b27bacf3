/- Contracts of the functions that the law reaches, and plain laws; no conditions but those written at each. -/
import Derived.Test.YtlmllmonabafjaaGreatDoorMg1
import Derived.ProofKit
import Derived.OpenShut
import Derived.Lib.SmallJoins
import Derived.Deep.Slices
import Derived.Deep.Fields
namespace Go.Proofs.YtlmllmonabafjaaGreatDoor
open Go.Value renaming bool->μ,slice->δ,pointer->π,agg->θ
open Go.IntKind renaming i64->ι,u8->υ,u16->φ,u32->ω,i32->χ,u64->ψ
open _root_.Go.Proofs.Tryz
set_option linter.unusedSimpArgs false
set_option maxHeartbeats 8000000
set_option linter.unusedVariables false
open Go.RowKit
set_option maxRecDepth 100000
theorem jG {w:World} {base e size n b:Nat} {v:Value} {xs:List Value} (h:w.ownsRow base e size v n xs) (d:v.ownBlock=some b):base<=b:=by
 rcases h.2 with ⟨rfl,_⟩ | ⟨G,cap,cur,rfl,H,_⟩
 ·cases d
 ·obtain rfl:G=b:=by injection d
  exact H
theorem un.to_more {d w w':World} {W:Nat} {v:Value} {l J:List Int} (I:un w w' W v l) (h:j5 w W v J) (m:qa d w) (G:d.heap.size<=W):qa d w':=
 qg.to_more m I.2 (by
  rintro k (rfl | H)
  ·exact G
  ·have:=jG h.row H;omega)
theorem Jv {d w w':World} {R:Nat} (a:qg (λb=>b=R) w w') (m:qa d w) (G:d.heap.size<=R):qa d w':=
 qg.to_more m a (by rintro k rfl;exact G)
theorem wR (w:World):j5 (w.alloc (.cells #[δ none 0 0] 204)) w.heap.size (δ none 0 0) []:=⟨qj _ _,⟨rfl,Or.inl ⟨rfl,rfl⟩⟩⟩
structure WrK (w0 w:World) (W:Nat) (v:Value) (l:List Int) (B:Nat) (o:Obj):Prop where
 wr:j5 w W v l
 more:qa w0 w
 base:w0.heap.size<=W
 keep:w.heap[B]? =some o
 ne: ¬B=W
 apart:v.ownBlock≠some B
theorem WrK.new {d w:World} {W:Nat} {v:Value} {l:List Int} (o:Obj) (h:j5 w W v l) (m:qa d w) (b:d.heap.size<=W):WrK d (w.alloc o) W v l w.heap.size o:=
 ⟨h.more (qa.alloc w o),m.al o,b,qj w o,λe=>by have:=qn h.blk;omega,λe=>by have:=gB h.row e;omega⟩
theorem WrK.wrote {G w w':World} {W:Nat} {v:Value} {l l':List Int} {B:Nat} {o:Obj} (h:WrK G w W v l B o) (x:un w w' W v l'): ∃v',WrK G w' W v' l' B o:=by
 have I:=x.to_more h.wr h.more h.base;obtain⟨⟨v',H,d⟩,a⟩:=x;refine⟨v',H,I,h.base,a.blk h.keep ?_,h.ne, ?_⟩
 ·rintro(e | e)
  ·exact h.ne e
  ·exact h.apart e
 ·intro e;rcases d with d | ⟨g,d,h3⟩
  ·exact h.apart (by rw[<-d];exact e)
  ·rw[e] at d;obtain rfl:B=g:=by injection d
   have:=qn h.keep;omega
structure qu (w:World) (R:Nat) (left:List Int) (wrong:Int) (C:Nat->Prop:=λ_=>True):Prop where
 blk: ∃v,w.heap[R]? =some (.cells #[v,.int .i64 wrong] 247 (0,0))/\SlI .u8 w v left/\(¬left=[]-> ∀g,v.ownBlock=some g->C g)
 small:left.length<=1000000
 byt:Byt left
 shut: ¬wrong=0->left=[]
theorem qu.more {w w':World} {R:Nat} {l:List Int} {e:Int} {C:Nat->Prop} (h:qu w R l e C) (m:qa w w'):qu w' R l e C:=by
 obtain⟨⟨v,d,G,N⟩,H,I,J⟩:=h;exact⟨⟨v,qc m d,G.keep m,N⟩,H,I,J⟩
theorem qu.mono {w:World} {R:Nat} {l:List Int} {e:Int} {C D:Nat->Prop} (h:qu w R l e C) (k: ∀g,C g->D g):qu w R l e D:=by
 obtain⟨⟨v,d,G,N⟩,H,I,J⟩:=h;exact⟨⟨v,d,G,λx g y=>k g (N x g y)⟩,H,I,J⟩
theorem qu.old {w:World} {R:Nat} {l:List Int} {e:Int} {C:Nat->Prop} (h:qu w R l e C):qu w R l e (λg=>C g/\g<w.heap.size):=by
 obtain⟨⟨v,G,d,N⟩,H,I,J⟩:=h;refine⟨⟨v,G,d,λx g y=>⟨N x g y, ?_⟩⟩,H,I,J⟩;obtain⟨Y,cap,rfl,_,U,_⟩:=d;obtain⟨b,aa,rfl,O,_⟩:=U 0 (List.length_pos_iff.2 x);obtain rfl:b=g:=by injection y
 exact O
theorem AU {D:Nat->Prop} {w w':World} {v:Value} {l:List Int} (h:SlI .u8 w v l) (J: ¬l=[]-> ∀b,v.ownBlock=some b-> ¬D b) (a:qg D w w'):SlI .u8 w' v l:=by
 obtain⟨O,cap,rfl,G,H,I⟩:=h;refine⟨O,cap,rfl,G,λi hi=> ?_,I⟩;obtain⟨b,U,rfl,d,N⟩:=H i hi;exact⟨b,U,rfl,Nat.lt_of_lt_of_le d a.size,by rw[a.cells b _ d (J (λe=>by rw[e] at hi;simp at hi) b rfl)];exact N⟩
theorem qu.off {D:Nat->Prop} {w w':World} {R:Nat} {l:List Int} {e:Int} {C:Nat->Prop} (h:qu w R l e C) (m:qg D w w') (U: ¬D R) (O: ∀g,C g-> ¬D g):qu w' R l e C:=by
 obtain⟨⟨v,G,H,d⟩,I,J,N⟩:=h;exact⟨⟨v,m.blk G U,AU H (λx b y=>O b (d x b y)) m,d⟩,I,J,N⟩
theorem Ke {w:World} {R:Nat} {l:List Int} {e:Int} {C:Nat->Prop} (h:qu w R l e C) (o:Nat) (x:Int):w.cell? ⟨R,o,none⟩≠some (υ x):=by
 obtain⟨⟨v,d,⟨G,cap,rfl,_⟩,_⟩,_⟩:=h;rw[cell_of_row w R o _ _ _ d]
 match o with
 | 0=>simp
 | 1=>simp
 | n+2=>simp
theorem SlI.away {S:Nat->Prop} {w w':World} {v:Value} {l:List Int} (h:SlI .u8 w v l) (m:qg S w w') (O: ∀b,S b-> ∀o x,w.cell? ⟨b,o,none⟩≠some (υ x)):SlI .u8 w' v l:=by
 obtain⟨U,cap,H,I,J,N⟩:=h;refine⟨U,cap,H,I,λi hi=> ?_,N⟩;obtain⟨b,Y,e,d,G⟩:=J i hi;exact⟨b,Y,e,Nat.lt_of_lt_of_le d m.size,by rw[m.cells b _ d (λs=>O b s _ _ G)];exact G⟩
theorem xh:Byt []:=by intro i;simp
theorem Byt.drop {l:List Int} (h:Byt l) (n:Nat):Byt (l.drop n):=by
 intro i;have:=h (n+i);rw[List.getD_eq_getElem?_getD] at this ⊢;rw[List.getElem?_drop];exact this
theorem Byt.take {l:List Int} (h:Byt l) (n:Nat):Byt (l.take n):=by
 intro i;have:=h i;rw[List.getD_eq_getElem?_getD] at this ⊢;rw[List.getElem?_take];split
 ·exact this
 ·simp
def tkB (l:List Int) (n:Int):List Int:=if n<=l.length then l.take n.toNat else []
def tkL (l:List Int) (n:Int):List Int:=l.drop n.toNat
def tkE (l:List Int) (n e:Int):Int:=if (l.length:Int)<n/\e=0 then 3 else e
theorem Eh (a b:List Int):tkB (a++b) a.length=a:=by
 unfold tkB;rw[if_pos (by simp;omega)];simp
theorem Ef (a b:List Int):tkL (a++b) a.length=b:=by
 unfold tkL;simp
theorem Eg (a b:List Int) (e:Int):tkE (a++b) a.length e=e:=by
 unfold tkE;rw[if_neg (by simp;omega)]
theorem zZ {a b:List Int} (d:Byt a) (G:Byt b):Byt (a++b):=by
 intro i;by_cases h:i<a.length
 ·have:=d i;rw[List.getD_eq_getElem?_getD] at this ⊢;rw[List.getElem?_append_left h];exact this
 ·have:=G (i-a.length);rw[List.getD_eq_getElem?_getD] at this ⊢;rw[List.getElem?_append_right τ];exact this
theorem zn {w:World} {R:Nat} {l:List Int} {e:Int} {C:Nat->Prop} (h:qu w R l e C):
  Calls prog 57 #[γ R] w λG w'=>G= .returned (ι l.length)/\w'=w:=by
 obtain⟨⟨v,d,⟨I,cap,rfl,_⟩,_⟩,_⟩:=h;have H:=β0 d;clear d
 go_enter func57,ntmps57
 go_wp2;go_ret;exact⟨rfl,rfl⟩
theorem Lx (v:Value) (l:List Int) (w:World) (U:SlI .u8 w v l) (N:Byt l) (H:l.length<=1000000):
  Calls prog 51 #[v] w λe w'=> ∃R,e= .returned (γ R)/\w.heap.size<=R/\qu w' R l 0/\qa w w':=by
 go_enter func51,ntmps51
 go_wp2_with (go_at_call 50;refine(EC v l w U H).mono ?_;rintro e w2 ⟨v2,rfl,d,I⟩;have J:=κ d;have G:=κ I;obtain⟨ab,aa,Y,rfl,O⟩:=qT d;clear d I O)
 go_ret;exact⟨_,rfl,G.o.size,⟨⟨_,qj _ _,(SlI.of_owns J.o τ).keep (qa.alloc _ _),λ_ _ _=>trivial⟩,H,N,λh=>absurd rfl h⟩,G.o.al _⟩
theorem km (v:Value) (l:List Int) (w:World) (U:SlI .u8 w v l) (N:Byt l) (I:l.length<=1000000):
  Calls prog 51 #[v] w λe w'=> ∃R,e= .returned (γ R)/\w.heap.size<=R/\qu w' R l 0 (λg=>w.heap.size<=g/\g<w'.heap.size)/\qa w w':=by
 go_enter func51,ntmps51
 go_wp2_with (go_at_call 50;refine(EC v l w U I).mono ?_;rintro e w2 ⟨v2,rfl,G,J⟩;have d:=κ G;have H:=κ J;obtain⟨ab,aa,Y,rfl,O⟩:=qT G;clear G J O)
 go_ret;exact⟨_,rfl,H.o.size,⟨⟨_,qj _ _,(SlI.of_owns d.o τ).keep (qa.alloc _ _),λ_ g y=>⟨jG d.o y,Nat.lt_of_lt_of_le (gB d.o y) (qa.alloc _ _).size⟩⟩,I,N,λh=>absurd rfl h⟩,H.o.al _⟩
theorem gf {w:World} {R:Nat} {l:List Int} {e:Int} {C:Nat->Prop} (h:qu w R l e C) (x:Int) (d:x=0∨(¬x=0/\ ¬e=0)):
  Calls prog 55 #[γ R,ι x] w λH w'=>H= .returned (.tuple #[])/\w'=w:=by
 obtain⟨⟨v,G,I,J⟩,_⟩:=h;have c1:=β1 G;clear G I J;rcases d with d | ⟨d,he⟩
 ·subst d
  go_enter func55,ntmps55
  go_wp2;refine bodyPost_ret (v:= .tuple #[]) ?rr rfl ?_
  case rr=>simp[results,results55,go_sem]
  exact⟨rfl,rfl⟩
 ·have N:(x==0)=false:=by simpa using d
  have O:(e != 0)=true:=by simpa using he
  go_enter func55,ntmps55
  go_wp2;refine bodyPost_ret (v:= .tuple #[]) ?rr rfl ?_
  case rr=>simp[results,results55,go_sem]
  exact⟨rfl,rfl⟩
theorem Jd {w:World} {R:Nat} {l:List Int} {C:Nat->Prop} (h:qu w R l 0 C) (x:Int) (I: ¬x=0):
  Calls prog 55 #[γ R,ι x] w λH w'=>H= .returned (.tuple #[])/\qu w' R [] x C/\qg (λb=>b=R) w w':=by
 obtain⟨⟨v,d,⟨Y,cap,rfl,_⟩,_⟩,_⟩:=h;have J:=β0 d;have c1:=β1 d;have N:=qd d 0;have O:=qd d 1;have G:=κ d;have U:(x==0)=false:=by simpa using I
 clear d
 go_enter func55,ntmps55
 go_wp2;refine bodyPost_end (v:= .tuple #[]) ?rr rfl ?_
 case rr=>simp[results,results55,go_sem]
 exact⟨rfl,⟨⟨_,qB (qp (qp G.o 1 _) 0 _) rfl,SlI.nil _ _,λx=>absurd rfl x⟩,η,xh,λ_=>rfl⟩,((qg.refl (λb=>b=R) w).set (p:=⟨R,1,none⟩) rfl _).set (p:=⟨R,0,none⟩) rfl _⟩
theorem Wg {w:World} {R:Nat} {l:List Int} {e:Int} (n:Int) (G:n<=0) {C:Nat->Prop} (h:qu w R l e C):
  Calls prog 110 #[γ R,ι n] w λd w'=>d= .returned (δ none 0 0)/\w'=w:=by
 clear h
 go_enter func110,ntmps110
 go_wp2;go_ret;exact⟨rfl,rfl⟩
theorem Y9 {w:World} {R:Nat} {l:List Int} {e:Int} (n:Int) (Y:0<n) (O:(l.length:Int)<n) {C:Nat->Prop} (h:qu w R l e C):
  Calls prog 110 #[γ R,ι n] w λJ w'=>J= .returned (δ none 0 0)/\qu w' R [] (tkE l n e) C/\qg (λb=>b=R) w w':=by
 have d:=κ h;obtain⟨⟨v,G,⟨aa,cap,rfl,_⟩,_⟩,_⟩:=h;have U:=β0 G;clear G;by_cases he:e=0
 ·subst he
  go_enter func110,ntmps110
  go_wp2_with (go_at_call 55;refine(Jd d.o 3 ζ).mono ?_;rintro e w2 ⟨rfl,N,I⟩)
  go_ret;refine⟨rfl, ?_,I⟩;have:tkE l n 0=3:=by unfold tkE;rw[if_pos ⟨O,rfl⟩]
  rw[this];exact N
 ·go_enter func110,ntmps110
  go_wp2_with (go_at_call 55;refine(gf d.o 3 (Or.inr ⟨ζ,he⟩)).mono ?_;rintro e w2 ⟨rfl,rfl⟩)
  go_ret;have H:=d.o;have:tkE l n e=e:=by unfold tkE;rw[if_neg (λx=>he x.2)]
  rw[this];obtain rfl:=H.shut he;exact⟨rfl,H,qg.refl _ _⟩
theorem Bx {d:Option Addr} {c n g m G k k':Nat} (h:(δ (if c=n then d else d.map (·.add n)) m k).ownBlock=some g):(δ d G k').ownBlock=some g:=by
 by_cases e:c=n
 ·rw[if_pos e] at h;cases d<;>exact h
 ·rw[if_neg e] at h;cases d with
  | none=>exact h
  | some a=>
   simp only[Option.map_some,Value.ownBlock] at h ⊢;rw[<-h];unfold Addr.add;split<;>rfl
theorem KB {w:World} {R:Nat} {l:List Int} {e:Int} (n:Nat) (ay:0<n) (ac:n<=l.length) {C:Nat->Prop} (h:qu w R l e C):
  Calls prog 110 #[γ R,ι n] w λak w'=> ∃v',ak= .returned v'/\SlI .u8 w' v' (l.take n)/\qu w' R (l.drop n) e C/\qg (λb=>b=R) w w':=by
 have au:=κ h;have af:=λo x=>Ke h o x
 have aj:=κ af;obtain⟨⟨v,H,Y,ab⟩,ax,am,aa⟩:=h;have ai:=κ ab;clear ab;have ag:=κ H;have O:=κ Y;obtain⟨N,cap,rfl,an,ao,ap,aq,ar⟩:=Y;have av:=β0 H;have aw:=qd H 0;have aB: ¬(l.length:Int)<(n:Int):=by omega
 have az:(n:Int)<=(cap:Int):=by omega
 have aC:(n:Int)<=(l.length:Int):=by omega
 have aA:(0:Int)<=(n:Int):=by omega
 have ah:=κ aa;clear H an ao ap aq ar aa af;have ae: ∀G d,(G=if cap=n then N else N.map (·.add n))->d=cap-n-> ∃v',Ending.returned (δ N n n)= .returned v'/\SlI .u8 (w.setCell ⟨R,0,none⟩ (δ G (l.length-n) d)) v' (l.take n)/\qu (w.setCell ⟨R,0,none⟩ (δ G (l.length-n) d)) R (l.drop n) e C/\qg (λb=>b=R) w (w.setCell ⟨R,0,none⟩ (δ G (l.length-n) d)):=by
  intro G d U al;have I:qg (λb=>b=R) w (w.setCell ⟨R,0,none⟩ (δ G (l.length-n) d)):=(qg.refl (λb=>b=R) w).set (p:=⟨R,0,none⟩) rfl _;have ad: ∀b,b=R-> ∀o x,w.cell? ⟨b,o,none⟩≠some (υ x):=by rintro b rfl;exact aj.o
  subst al;exact⟨_,rfl,((O.o.take3 n ac).away I ad),⟨⟨_,qB (qp ag.o 0 _) rfl,(O.o.from_ n ac _ U).away I ad,λx g y=>ai.o (λz=>x (by rw[z];simp)) g (by subst U;exact Bx y)⟩,by simp;omega,am.drop n,λx=>by rw[ah.o x];simp⟩,I⟩
 have J:=κ ae;clear ae
 go_enter func110,ntmps110
 go_wp2
 all_goals (go_ret;first | exact J.o _ _ rfl rfl | exact J.o _ _ (by rw[if_pos τ]) τ | exact J.o _ _ (by rw[if_neg τ]) rfl)
theorem kV {w:World} {R:Nat} {l:List Int} {e:Int} (n:Int) {C:Nat->Prop} (h:qu w R l e C):
  Calls prog 110 #[γ R,ι n] w λH w'=> ∃v',H= .returned v'/\SlI .u8 w' v' (tkB l n)/\qu w' R (tkL l n) (tkE l n e) C/\qg (λb=>b=R) w w':=by
 by_cases h0:n<=0
 ·refine(Wg n h0 h).mono ?_;rintro H w' ⟨rfl,rfl⟩;have O:n.toNat=0:=by omega
  have d:tkB l n=[]:=by unfold tkB;rw[O];split<;>simp
  have J:tkE l n e=e:=by unfold tkE;rw[if_neg τ]
  have G:tkL l n=l:=by unfold tkL;rw[O];simp
  rw[d,J,G];exact⟨_,rfl,SlI.nil _ _,h,qg.refl _ _⟩
 ·by_cases h1:(l.length:Int)<n
  ·refine(Y9 n τ h1 h).mono ?_;rintro H w' ⟨rfl,N,I⟩;have d:tkB l n=[]:=by unfold tkB;rw[if_neg τ]
   have G:tkL l n=[]:=by unfold tkL;exact List.drop_eq_nil_of_le τ
   rw[d,G];exact⟨_,rfl,SlI.nil _ _,N,I⟩
  ·obtain⟨k,rfl⟩: ∃k:Nat,n=k:=⟨n.toNat,τ⟩;refine(KB k τ τ h).mono ?_;rintro H w' ⟨v',rfl,N,U,I⟩;have d:tkB l k=l.take k:=by unfold tkB;rw[if_pos τ];simp
   have G:tkL l k=l.drop k:=by unfold tkL;simp
   have J:tkE l k e=e:=by unfold tkE;rw[if_neg τ]
   rw[d,J,G];exact⟨_,rfl,N,U,I⟩
theorem jL {l:List Int} (h:Byt l) (n:Int):Byt (tkB l n):=by
 unfold tkB;split
 ·exact h.take _
 ·exact xh
theorem zh (l:List Int) (n:Int) (d:0<=n):((tkB l n).length:Int)<=n:=by
 unfold tkB;split
 ·rw[List.length_take];omega
 ·exact d
theorem zv (l:List Int) (k:Nat) (h:Byt l) (H:(l.length:Int)<=k) (G:k<=8):0<=num l/\num l<2 ^ (8* k):=by
 have d:=Yy l h;rw[uD l h τ];refine⟨d.1,Int.lt_of_lt_of_le d.2 ?_⟩;have:2 ^ (8* l.length)<=2 ^ (8* k):=Nat.pow_le_pow_right ζ τ
 exact_mod_cast this
theorem Zl {w:World} {R:Nat} {l:List Int} {e:Int} {C:Nat->Prop} (h:qu w R l e C) (n:Nat) (ac:n<=1):
  Calls prog 109 #[.func (.func 110) #[γ R] #[],ι n] w λO w'=>O= .returned (υ (num (tkB l n)))/\qu w' R (tkL l n) (tkE l n e) C/\qg (λb=>b=R) w w':=by
 have H:=jL h.byt n;have d:=zv (tkB l n) n H (zh l n τ) τ;have I:(2:Int) ^ (8* n)<=2 ^ (8* 1):=by
  have:2 ^ (8* n)<=2 ^ (8* 1):=Nat.pow_le_pow_right ζ τ
  exact_mod_cast this
 have J:IntKind.u8.wrap (num (tkB l n))=num (tkB l n):=Int.emod_eq_of_lt d.1 (Int.lt_of_lt_of_le d.2 I);have G:=κ J;clear J d I
 go_enter func109,ntmps109
 go_wp2_with first | (go_at_call 110;refine(kV n h).mono ?_;rintro aa w1 ⟨v1,rfl,Y,U,N⟩) | (go_at_call 167;refine(gg _ v1 _ Y H).mono ?_;rintro ab w2 ⟨rfl,rfl⟩)
 go_ret;exact⟨by first | exact xV G.o | rfl | exact congrArg _ (by rw[G.o]),U,N⟩
theorem Jp {w:World} {R:Nat} {l:List Int} {e:Int} {C:Nat->Prop} (h:qu w R l e C) (n:Nat) (ac:n<=2):
  Calls prog 111 #[.func (.func 110) #[γ R] #[],ι n] w λO w'=>O= .returned (φ (num (tkB l n)))/\qu w' R (tkL l n) (tkE l n e) C/\qg (λb=>b=R) w w':=by
 have H:=jL h.byt n;have d:=zv (tkB l n) n H (zh l n τ) τ;have I:(2:Int) ^ (8* n)<=2 ^ (8* 2):=by
  have:2 ^ (8* n)<=2 ^ (8* 2):=Nat.pow_le_pow_right ζ τ
  exact_mod_cast this
 have J:IntKind.u16.wrap (num (tkB l n))=num (tkB l n):=Int.emod_eq_of_lt d.1 (Int.lt_of_lt_of_le d.2 I);have G:=κ J;clear J d I
 go_enter func111,ntmps111
 go_wp2_with first | (go_at_call 110;refine(kV n h).mono ?_;rintro aa w1 ⟨v1,rfl,Y,U,N⟩) | (go_at_call 167;refine(gg _ v1 _ Y H).mono ?_;rintro ab w2 ⟨rfl,rfl⟩)
 go_ret;exact⟨by first | exact xV G.o | rfl | exact congrArg _ (by rw[G.o]),U,N⟩
theorem ub {w:World} {R:Nat} {l:List Int} {e:Int} {C:Nat->Prop} (h:qu w R l e C) (n:Nat) (ac:n<=4):
  Calls prog 112 #[.func (.func 110) #[γ R] #[],ι n] w λO w'=>O= .returned (ω (num (tkB l n)))/\qu w' R (tkL l n) (tkE l n e) C/\qg (λb=>b=R) w w':=by
 have H:=jL h.byt n;have d:=zv (tkB l n) n H (zh l n τ) τ;have I:(2:Int) ^ (8* n)<=2 ^ (8* 4):=by
  have:2 ^ (8* n)<=2 ^ (8* 4):=Nat.pow_le_pow_right ζ τ
  exact_mod_cast this
 have J:IntKind.u32.wrap (num (tkB l n))=num (tkB l n):=Int.emod_eq_of_lt d.1 (Int.lt_of_lt_of_le d.2 I);have G:=κ J;clear J d I
 go_enter func112,ntmps112
 go_wp2_with first | (go_at_call 110;refine(kV n h).mono ?_;rintro aa w1 ⟨v1,rfl,Y,U,N⟩) | (go_at_call 167;refine(gg _ v1 _ Y H).mono ?_;rintro ab w2 ⟨rfl,rfl⟩)
 go_ret;exact⟨by first | exact xV G.o | rfl | exact congrArg _ (by rw[G.o]),U,N⟩
theorem jT {w:World} {R:Nat} {l:List Int} {e:Int} {C:Nat->Prop} (h:qu w R l e C):
  Calls prog 52 #[γ R] w λG w'=>G= .returned (υ (num (tkB l 1)))/\qu w' R (tkL l 1) (tkE l 1 e) C/\qg (λb=>b=R) w w':=by
 go_enter func52,ntmps52
 go_wp2_with (go_at_call 109;refine(Zl h 1 ζ).mono ?_;rintro I w1 ⟨rfl,H,d⟩)
 go_ret;exact⟨rfl,H,d⟩
theorem xn {w:World} {R:Nat} {l:List Int} {e:Int} {C:Nat->Prop} (h:qu w R l e C):
  Calls prog 53 #[γ R] w λG w'=>G= .returned (φ (num (tkB l 2)))/\qu w' R (tkL l 2) (tkE l 2 e) C/\qg (λb=>b=R) w w':=by
 go_enter func53,ntmps53
 go_wp2_with (go_at_call 111;refine(Jp h 2 ζ).mono ?_;rintro I w1 ⟨rfl,H,d⟩)
 go_ret;exact⟨rfl,H,d⟩
theorem Je {w:World} {R:Nat} {l:List Int} {e:Int} {C:Nat->Prop} (h:qu w R l e C):
  Calls prog 328 #[γ R] w λG w'=>G= .returned (ω (num (tkB l 3)))/\qu w' R (tkL l 3) (tkE l 3 e) C/\qg (λb=>b=R) w w':=by
 go_enter func328,ntmps328
 go_wp2_with (go_at_call 112;refine(ub h 3 ζ).mono ?_;rintro I w1 ⟨rfl,H,d⟩)
 go_ret;exact⟨rfl,H,d⟩
theorem jD {w:World} {R:Nat} {l:List Int} {e:Int} {C:Nat->Prop} (h:qu w R l e C):
  Calls prog 54 #[γ R] w λG w'=>G= .returned (ω (num (tkB l 4)))/\qu w' R (tkL l 4) (tkE l 4 e) C/\qg (λb=>b=R) w w':=by
 go_enter func54,ntmps54
 go_wp2_with (go_at_call 112;refine(ub h 4 ζ).mono ?_;rintro I w1 ⟨rfl,H,d⟩)
 go_ret;exact⟨rfl,H,d⟩
theorem Vm (l:List Int) (n:Int):(tkB l n).length<=l.length:=by
 unfold tkB;split
 ·rw[List.length_take];omega
 ·simp
theorem kq {w:World} {base d e size n:Nat} {v:Value} {xs:List Value} (h:w.ownsRow base e size v n xs) (I:d<=base):w.ownsRow d e size v n xs:=by
 obtain⟨G,H⟩:=h;refine⟨G, ?_⟩;rcases H with h | ⟨b,cap,cur,e1,hb',rest⟩
 ·exact Or.inl h
 ·exact Or.inr ⟨b,cap,cur,e1,Nat.le_trans I hb',rest⟩
theorem QI {w:World} {R:Nat} {l:List Int} {e:Int} (n:Int) {C:Nat->Prop} (h:qu w R l e C):
  Calls prog 56 #[γ R,ι n] w λH w'=> ∃v',H= .returned v'/\w'.ownsRow w.heap.size 5 1 v' (tkB l n).length ((tkB l n).map (Value.int .u8))/\qu w' R (tkL l n) (tkE l n e) C/\qg (λb=>b=R) w w':=by
 have aa:=Vm l n;have Y:=h.small
 go_enter func56,ntmps56
 go_wp2_with first | (go_at_call 110;refine(kV n h).mono ?_;rintro O w1 ⟨v1,rfl,N,I,d⟩) | (go_at_call 50;refine(EC v1 _ _ N τ).mono ?_;rintro U w2 ⟨v2,rfl,J,G⟩)
 go_ret;exact⟨_,rfl,kq J d.size,I.more G,d.more G⟩
theorem yT {w:World} {R:Nat} {l:List Int} {e:Int} {C:Nat->Prop} (h:qu w R l e C):
  Calls prog 59 #[γ R] w λG w'=>G= .returned (ι (if ¬e=0 then e else if 0<l.length then 4 else 0))/\w'=w:=by
 obtain⟨⟨v,d,⟨O,cap,rfl,_⟩,_⟩,_,_,J⟩:=h;have I:=β0 d;have c1:=β1 d;clear d;by_cases he:e=0
 ·subst he;by_cases hl:0<l.length
  ·have H:(0:Int)<(l.length:Int):=by omega
   go_enter func59,ntmps59
   go_wp2;go_ret;simp[hl]
  ·have H: ¬(0:Int)<(l.length:Int):=by omega
   go_enter func59,ntmps59
   go_wp2;go_ret;simp[hl]
 ·have N:(e != 0)=true:=by simpa using he
  go_enter func59,ntmps59
  go_wp2;go_ret;simp[he]
abbrev U16 (n:Int):Prop:=0<=n/\n<=65535
theorem qK (n s:Int) (d:0<=s/\s<=8):(qy n s).length=s.toNat:=by
 rw[gQ n s d,zP]
theorem Xi (x:Int) (k:Nat) (H:0<=x) (G:k<=8) (h:x<2 ^ (8* k)):num (qy x k)=x:=by
 have d:qy x k=bys x k:=by rw[gQ _ _ τ];simp
 rw[d,uD _ (JF _ _) (by rw[zP];exact G),VA];exact Int.emod_eq_of_lt H h
theorem uM {l:List Int} {n:Int} (d:0<=n) (h:n<=l.length):l=tkB l n++tkL l n/\((tkB l n).length:Int)=n:=by
 unfold tkB tkL;rw[if_pos h];refine⟨(List.take_append_drop _ _).symm, ?_⟩;rw[List.length_take];omega
theorem gR {l:List Int} (h:Byt l) (k:Nat) (H:(l.length:Int)=k) (G:k<=8):qy (num l) k=l:=by
 have d:l.length=k:=by omega
 rw[gQ _ _ τ];simp only[Int.toNat_natCast];rw[<-d];exact Fv l h τ
abbrev RdS:=List Int×Int
def wrS (s:RdS) (x:Int):RdS:=if x=0∨ ¬s.2=0 then s else ([],x)
def tkS (s:RdS) (n:Int):RdS:=(tkL s.1 n,tkE s.1 n s.2)
theorem zo {w:World} {R:Nat} {s:RdS} {C:Nat->Prop} (h:qu w R s.1 s.2 C) (x:Int):
  Calls prog 55 #[γ R,ι x] w λd w'=>d= .returned (.tuple #[])/\qu w' R (wrS s x).1 (wrS s x).2 C/\qg (λb=>b=R) w w':=by
 obtain⟨l,e⟩:=s;simp only at h;by_cases hx:x=0
 ·refine(gf h x (Or.inl hx)).mono ?_;rintro d w' ⟨rfl,rfl⟩;have:wrS (l,e) x=(l,e):=by unfold wrS;rw[if_pos (Or.inl hx)]
  rw[this];exact⟨rfl,h,qg.refl _ _⟩
 ·by_cases he:e=0
  ·subst he;refine(Jd h x hx).mono ?_;rintro d w' ⟨rfl,H,G⟩;have:wrS (l,0) x=([],x):=by unfold wrS;rw[if_neg (by simp[hx])]
   rw[this];exact⟨rfl,H,G⟩
  ·refine(gf h x (Or.inr ⟨hx,he⟩)).mono ?_;rintro d w' ⟨rfl,rfl⟩;have:wrS (l,e) x=(l,e):=by unfold wrS;rw[if_pos (Or.inr he)]
   rw[this];exact⟨rfl,h,qg.refl _ _⟩
abbrev U32 (n:Int):Prop:=0<=n/\n<=4294967295
def adv (s:RdS) (n:Nat):RdS:=if s.2=0 then (if n<=s.1.length then (s.1.drop n,0) else ([],3)) else ([],s.2)
def Jm (s:RdS):Prop:= ¬s.2=0->s.1=[]
theorem gz {s:RdS} (n:Nat) (h:Jm s):tkS s n=adv s n:=by
 obtain⟨l,e⟩:=s;unfold tkS adv tkL tkE;simp only[Int.toNat_natCast];by_cases he:e=0
 ·subst he;rw[if_pos rfl];by_cases hn:n<=l.length
  ·rw[if_pos hn,if_neg τ]
  ·rw[if_neg hn,if_pos τ,List.drop_eq_nil_of_le τ]
 ·have d:l=[]:=h he;subst d;rw[if_neg he,if_neg (λx=>he x.2)];simp
theorem vj (s:RdS) (n:Nat):Jm (adv s n):=by
 unfold Jm adv;split
 ·split
  ·intro h;exact absurd rfl h
  ·intro _;rfl
 ·intro _;rfl
theorem gG (s:RdS) (a b:Nat):adv (adv s a) b=adv s (a+b):=by
 obtain⟨l,e⟩:=s;unfold adv;simp only;by_cases he:e=0
 ·subst he;simp only[if_true];by_cases ha:a<=l.length
  ·rw[if_pos ha];simp only[if_true,List.length_drop,List.drop_drop];by_cases hb:a+b<=l.length
   ·rw[if_pos τ,if_pos hb]
   ·rw[if_neg τ,if_neg hb]
  ·rw[if_neg ha];simp;omega
 ·rw[if_neg he,if_neg he];simp[he]
theorem xF {s:RdS} (a b:Nat):tkS (adv s a) b=adv s (a+b):=by rw[gz b (vj s a),gG]
theorem Cu {s:RdS} (h:Jm s):adv s 0=s:=by
 obtain⟨l,e⟩:=s;unfold adv;by_cases he:e=0
 ·subst he;simp
 ·have d:l=[]:=h he;subst d;simp[he]
theorem QH (x:Int):qy (x%16777216) 3=qy x 3:=by
 have h: ∀j,j<3->by8 (x%16777216) j=by8 x j:=by
  intro j d;unfold by8
  match j,d with
  | 0,_=>simp
  | 1,_=>simp;omega
  | 2,_=>simp;omega
 show [by8 (x%16777216) 2,by8 (x%16777216) 1,by8 (x%16777216) 0]=[by8 x 2,by8 x 1,by8 x 0];rw[h 0 ζ,h 1 ζ,h 2 ζ]
theorem JY (x:Int) (k:Nat) (G:k<=8) (r:List Int):tkS (qy x k++r,0) k=(r,0)/\tkB (qy x k++r) k=qy x k:=by
 have d:((qy x k).length:Int)=k:=by rw[qK _ _ τ];simp
 have a:=Eh (qy x k) r;have b:=Ef (qy x k) r;have c:=Eg (qy x k) r 0;rw[d] at a b c;unfold tkS;simp only[a,b,c,and_self]
theorem wU (k:Nat) (G:k<=8) {L:List Int} (d:Byt L) (h:k<=L.length): ∃x r,L=qy x k++r/\0<=x/\x<2 ^ (8* k)/\Byt r:=by
 obtain⟨j,q⟩:=uM (l:=L) (n:=(k:Int)) τ τ;have H:=zv (tkB L k) k (jL d k) τ G;refine⟨num (tkB L k),tkL L k, ?_,H.1,H.2,d.drop _⟩;rw[gR (jL d k) k q G];exact j
theorem xv {L:List Int} (J:Byt L) (h:4<=L.length): ∃x r,L=qy x 4++r/\U32 x/\Byt r:=by
 obtain⟨x,r,G,H,d,I⟩:=wU 4 ζ J h;have d:x<4294967296:=d;exact⟨x,r,G,⟨H,τ⟩,I⟩
structure Pk where
 mr:Bool
 ty:Int
 sq:Int
 st:Int
 sc:Int
 ss:List Int
 has:Bool
 pr:Int
 ex:List Int
 pl:List Int
def pk0:Pk:=⟨false,0,0,0,0,[],false,0,[],[]⟩
structure uf (p:Pk):Prop where
 ty:0<=p.ty/\p.ty<=255
 sq:U16 p.sq
 st:U32 p.st
 sc:U32 p.sc
 ss: ∀i,U32 (p.ss.getD i 0)
 pr:U16 p.pr
 ex:Byt p.ex
 pl:Byt p.pl
def ww (p:Pk):Int:=12+4* (p.ss.length:Int)+(p.pl.length:Int)+if p.has then 4+(p.ex.length:Int) else 0
def jJ (p:Pk):Bool:=decide (p.ty<=127)&&decide ((p.ss.length:Int)<=15)&&(p.has||(decide (p.pr=0)&&decide (p.ex=[])))&&decide ((p.ex.length:Int)%4=0)&&decide (ww p<=200)
theorem yq (p:Pk):jJ p=true↔p.ty<=127/\(p.ss.length:Int)<=15/\(p.has=false->p.pr=0/\p.ex=[])/\(p.ex.length:Int)%4=0/\ww p<=200:=by
 unfold jJ;cases h:p.has<;>simp[and_assoc]
def CT (p:Pk):Int:=128+(p.ss.length:Int)+if p.has then 16 else 0
def CN (p:Pk):Int:=p.ty+if p.mr then 128 else 0
def ssB (l:List Int):List Int:=l.flatMap λx=>qy x 4
theorem AP (l:List Int) (x:Int):ssB (l++[x])=ssB l++qy x 4:=by simp[ssB]
theorem WE (l:List Int):(ssB l).length=4* l.length:=by
 induction l with
 | nil=>rfl
 | cons x l ih=>
  show (qy x 4++ssB l).length=_;rw[List.length_append,ih,qK _ _ ζ,List.length_cons];show 4+4* l.length=_;omega
def CV (p:Pk):List Int:=qy (CT p) 1++qy (CN p) 1++qy p.sq 2++qy p.st 4++qy p.sc 4
def Hz (p:Pk):List Int:=qy p.pr 2++qy ((p.ex.length:Int)/4) 2++p.ex
def DB (p:Pk):List Int:=CV p++ssB p.ss++if p.has then Hz p else []
def pkB (p:Pk):List Int:=DB p++p.pl
def j9:Nat->RdS->List Int×RdS
 | 0,s=>([],s)
 | n+1,s=>((j9 n s).1++[num (tkB (j9 n s).2.1 4)],tkS (j9 n s).2 4)
def xL (b:List Int):List Int×Bool:=
 if b=[] then ([],false) else if b.getD (b.length-1) 0=0∨(b.length:Int)<b.getD (b.length-1) 0 then ([],false) else (b.take (b.length-(b.getD (b.length-1) 0).toNat),true)
def vB (f:Int) (s:RdS):List Int×Int:=
 if ¬s.2=0 then ([],s.2) else if f/32%2=1 then (if (xL s.1).2 then ((xL s.1).1,0) else ([],2)) else (s.1,0)
def Qj (s:RdS):(Int×List Int)×RdS:=((num (tkB s.1 2),tkB (tkS (tkS s 2) 2).1 (4* num (tkB (tkS s 2).1 2))),tkS (tkS (tkS s 2) 2) (4* num (tkB (tkS s 2).1 2)))
def yj (f:Int) (s:RdS):(List Int×Int×List Int)×RdS:=
 if f/16%2=1 then (((j9 (f%16).toNat s).1,(Qj (j9 (f%16).toNat s).2).1.1,(Qj (j9 (f%16).toNat s).2).1.2),(Qj (j9 (f%16).toNat s).2).2)
 else (((j9 (f%16).toNat s).1,0,[]),(j9 (f%16).toNat s).2)
def s1H (b:List Int):RdS:=tkS (b,0) 1
def s2H (b:List Int):RdS:=tkS (s1H b) 1
def s3H (b:List Int):RdS:=tkS (s2H b) 2
def s4H (b:List Int):RdS:=tkS (s3H b) 4
def s5H (b:List Int):RdS:=tkS (s4H b) 4
def yy (f:Int) (s:RdS):RdS:=if f<128∨191<f then wrS s 2 else s
def fH (b:List Int):Int:=num (tkB b 1)
def gH (b:List Int):Int:=num (tkB (s1H b).1 1)
def mkH (b:List Int) (x:List Int×Int×List Int) (l:List Int):Pk:=
 ⟨decide (128<=gH b),gH b%128,num (tkB (s2H b).1 2),num (tkB (s3H b).1 4),num (tkB (s4H b).1 4),x.1,decide (fH b/16%2=1),x.2.1,x.2.2,l⟩
def JJ (b:List Int) (x:(List Int×Int×List Int)×RdS):Pk×Int:=
 if (vB (fH b) x.2).2=0 then (mkH b x.1 (vB (fH b) x.2).1,0) else (pk0,(vB (fH b) x.2).2)
def jl (b:List Int):Pk×Int:=
 if (200:Int)<b.length then (pk0,4) else JJ b (yj (fH b) (yy (fH b) (s5H b)))
theorem WI (b:List Int):s5H b=adv (b,0) 12:=by
 have h:Jm (b,0):=λh=>absurd rfl h
 show tkS (tkS (tkS (tkS (tkS (b,0) (1:Nat)) (1:Nat)) (2:Nat)) (4:Nat)) (4:Nat)=_;rw[gz 1 h,xF,xF,xF,xF]
theorem gN: ∀(n:Nat) (s:RdS),(j9 n s).1.length=n
 | 0,_=>rfl
 | n+1,s=>by
  show ((j9 n s).1++[_]).length=_;rw[List.length_append,gN n];rfl
theorem WB (e n:Int) (h: ¬e=0):tkS ([],e) n=([],e):=by
 unfold tkS;rw[tkL_nil',tkE_bad h]
where
 tkL_nil':tkL ([]:List Int) n=[]:=by unfold tkL;simp
 tkE_bad (he: ¬e=0):tkE [] n e=e:=by unfold tkE;rw[if_neg (λx=>he x.2)]
theorem Xd (e:Int) (h: ¬e=0): ∀n,(j9 n ([],e)).2=([],e)
 | 0=>rfl
 | n+1=>by
  show tkS (j9 n ([],e)).2 4=_;rw[Xd e h n,WB e 4 h]
theorem GH (f e:Int) (h: ¬e=0):(yj f ([],e)).2=([],e):=by
 unfold yj Qj;split
 ·simp only[Xd e h,WB e _ h]
 ·simp only[Xd e h]
theorem VS (b:List Int) (f e:Int) (h: ¬e=0):JJ b (yj f ([],e))=(pk0,e):=by
 have d:vB (fH b) (yj f ([],e)).2=([],e):=by
  rw[GH f e h];unfold vB;rw[if_pos h]
 unfold JJ;rw[d];simp only;rw[if_neg h]
def KS (b:List Int):Pk×Int:=
 if (200:Int)<b.length then (pk0,4) else if (b.length:Int)<12 then (pk0,3) else if fH b<128∨191<fH b then (pk0,2) else JJ b (yj (fH b) (b.drop 12,0))
theorem GP (b:List Int):KS b=jl b:=by
 unfold KS jl;by_cases h1:(200:Int)<b.length
 ·rw[if_pos h1,if_pos h1]
 rw[if_neg h1,if_neg h1];have d:s5H b=if 12<=b.length then (b.drop 12,0) else ([],3):=by
  rw[WI];unfold adv;simp
 by_cases h2:(b.length:Int)<12
 ·rw[if_pos h2];rw[if_neg τ] at d;have:yy (fH b) ([],3)=([],3):=by unfold yy wrS;simp
  rw[d,this,VS b _ 3 ζ]
 rw[if_neg h2];rw[if_pos τ] at d;rw[d];by_cases h3:fH b<128∨191<fH b
 ·rw[if_pos h3];have:yy (fH b) (b.drop 12,0)=([],2):=by unfold yy wrS;rw[if_pos h3];simp
  rw[this,VS b _ 2 ζ]
 ·rw[if_neg h3];have:yy (fH b) (b.drop 12,0)=(b.drop 12,0):=by unfold yy;rw[if_neg h3]
  rw[this]
theorem Cl (p:Pk):(CV p).length=12:=by
 unfold CV;simp only[List.length_append,qK _ 1 ζ,qK _ 2 ζ,qK _ 4 ζ]
 decide
theorem Bp (p:Pk):((DB p).length:Int)=12+4* (p.ss.length:Int)+if p.has then 4+(p.ex.length:Int) else 0:=by
 unfold DB;rw[List.length_append,List.length_append,Cl,WE];cases p.has
 ·simp
 ·simp only[if_true,Hz,List.length_append,qK _ 2 ζ];show ((12+4* p.ss.length+(2+2+p.ex.length):Nat):Int)=_;omega
theorem Ey (p:Pk):((pkB p).length:Int)=ww p:=by
 unfold pkB ww;rw[List.length_append];have:=Bp p;omega
def Γh (x:Pk) (a:Option Addr) (b:Nat) (c:Option Addr) (d:Nat) (e:Option Addr) (f:Nat):Mm:=.o
instance (x:Pk) (a:Option Addr) (b:Nat) (c:Option Addr) (d:Nat) (e:Option Addr) (f:Nat):CoeDep Mm (Γh x a b c d e f) (List Value):=⟨[μ x.mr,υ x.ty,φ x.sq,ω x.st,ω x.sc,δ a x.ss.length b,μ x.has,φ x.pr,δ c x.ex.length d,δ e x.pl.length f]⟩
instance (x:Pk) (a:Option Addr) (b:Nat) (c:Option Addr) (d:Nat) (e:Option Addr) (f:Nat):CoeDep Mm (Γh x a b c d e f) (Array Value):=⟨#[μ x.mr,υ x.ty,φ x.sq,ω x.st,ω x.sc,δ a x.ss.length b,μ x.has,φ x.pr,δ c x.ex.length d,δ e x.pl.length f]⟩
instance (x:Pk) (a:Option Addr) (b:Nat) (c:Option Addr) (d:Nat) (e:Option Addr) (f:Nat):CoeDep Mm (Γh x a b c d e f) Value:=⟨θ #[μ x.mr,υ x.ty,φ x.sq,ω x.st,ω x.sc,δ a x.ss.length b,μ x.has,φ x.pr,δ c x.ex.length d,δ e x.pl.length f]⟩
def Γi (k:Int) (l:Int) (n:Int) (x:Pk) (a:Option Addr) (b:Nat) (c:Option Addr) (d:Nat) (e:Option Addr) (f:Nat):Mm:=.o
instance (k:Int) (l:Int) (n:Int) (x:Pk) (a:Option Addr) (b:Nat) (c:Option Addr) (d:Nat) (e:Option Addr) (f:Nat):CoeDep Mm (Γi k l n x a b c d e f) (List Value):=⟨[ι k,ι l,ι n,μ x.mr,υ x.ty,φ x.sq,ω x.st,ω x.sc,δ a x.ss.length b,μ x.has,φ x.pr,δ c x.ex.length d,δ e x.pl.length f]⟩
instance (k:Int) (l:Int) (n:Int) (x:Pk) (a:Option Addr) (b:Nat) (c:Option Addr) (d:Nat) (e:Option Addr) (f:Nat):CoeDep Mm (Γi k l n x a b c d e f) (Array Value):=⟨#[ι k,ι l,ι n,μ x.mr,υ x.ty,φ x.sq,ω x.st,ω x.sc,δ a x.ss.length b,μ x.has,φ x.pr,δ c x.ex.length d,δ e x.pl.length f]⟩
instance (k:Int) (l:Int) (n:Int) (x:Pk) (a:Option Addr) (b:Nat) (c:Option Addr) (d:Nat) (e:Option Addr) (f:Nat):CoeDep Mm (Γi k l n x a b c d e f) Value:=⟨θ #[ι k,ι l,ι n,μ x.mr,υ x.ty,φ x.sq,ω x.st,ω x.sc,δ a x.ss.length b,μ x.has,φ x.pr,δ c x.ex.length d,δ e x.pl.length f]⟩
def Γq (x:Pk) (a:Value) (b:Value) (c:Value):Mm:=.o
instance (x:Pk) (a:Value) (b:Value) (c:Value):CoeDep Mm (Γq x a b c) (List Value):=⟨[μ x.mr,υ x.ty,φ x.sq,ω x.st,ω x.sc,a,μ x.has,φ x.pr,b,c]⟩
instance (x:Pk) (a:Value) (b:Value) (c:Value):CoeDep Mm (Γq x a b c) (Array Value):=⟨#[μ x.mr,υ x.ty,φ x.sq,ω x.st,ω x.sc,a,μ x.has,φ x.pr,b,c]⟩
instance (x:Pk) (a:Value) (b:Value) (c:Value):CoeDep Mm (Γq x a b c) Value:=⟨θ #[μ x.mr,υ x.ty,φ x.sq,ω x.st,ω x.sc,a,μ x.has,φ x.pr,b,c]⟩
def Γr (k:Int) (l:Int) (n:Int) (x:Pk) (a:Value) (b:Value) (c:Value):Mm:=.o
instance (k:Int) (l:Int) (n:Int) (x:Pk) (a:Value) (b:Value) (c:Value):CoeDep Mm (Γr k l n x a b c) (List Value):=⟨[ι k,ι l,ι n,μ x.mr,υ x.ty,φ x.sq,ω x.st,ω x.sc,a,μ x.has,φ x.pr,b,c]⟩
instance (k:Int) (l:Int) (n:Int) (x:Pk) (a:Value) (b:Value) (c:Value):CoeDep Mm (Γr k l n x a b c) (Array Value):=⟨#[ι k,ι l,ι n,μ x.mr,υ x.ty,φ x.sq,ω x.st,ω x.sc,a,μ x.has,φ x.pr,b,c]⟩
instance (k:Int) (l:Int) (n:Int) (x:Pk) (a:Value) (b:Value) (c:Value):CoeDep Mm (Γr k l n x a b c) Value:=⟨θ #[ι k,ι l,ι n,μ x.mr,υ x.ty,φ x.sq,ω x.st,ω x.sc,a,μ x.has,φ x.pr,b,c]⟩
theorem XV {P:Program} {w:World} {o:Oper} {a:Act} {C:World->Prop} {K:Act->World->Prop} (s x:Operand) (t:TypeId)
  (al:o.op= .call {callee:= .builtin .append,args:= #[s,x],argTypes:= #[t,t]})
  (base:Nat) (e:TypeId) (i:TypeInfo) (z:Value) (bytes:Nat) (aq:P.underlying t=some (.slice e)) (hi:P.info? e=some i) (av:i.zero=some z)
  (ap:i.size=1) (af:i.bytes=bytes) (aw:z.cells.size=1)
  (v:Value) (k:IntKind) (l:List Int) (ao:a.eval s=v) (am:w.ownsRow base e 1 v l.length (l.map (Value.int k)))
  (G:Addr) (cap:Nat) (d:List Int) (au:a.eval x= δ (some G) d.length cap) (ai:SlI k w (δ (some G) d.length cap) d)
  (ag:(l.length+d.length)* bytes<=140737488355328) (ay:1<=bytes) (ae:base<=w.heap.size)
  (h: ∀v' w',w'.ownsRow base e 1 v' (l++d).length ((l++d).map (Value.int k))->w.grownBy w' v.ownBlock->(v'.ownBlock=v.ownBlock∨v'.ownBlock=some w.heap.size)->C w'/\K (a.put o.dst v') w'):jn P C o a w K:=by
 have ad:l.length+d.length<=maxLen:=by
  have:=Nat.le_mul_of_pos_right (l.length+d.length) (show 0<bytes by omega);unfold maxLen;omega
 obtain⟨aE,ax,O,az,aj,aA,aB,aC⟩:=ai;cases O
 obtain⟨v',w',an,aa,ab,_,ac⟩:=run_append_own_at (P:=P) w base t o.type e i z 1 bytes aq hi av ap af aw ζ v l.length (l.map (Value.int k)) am G d.length cap (d.map (Value.int k)) η (by
  intro j u I;rw[List.getElem?_map] at I;obtain⟨y,J,rfl⟩:=Option.map_eq_some_iff.1 I;obtain⟨ak,aD⟩:=List.getElem?_eq_some_iff.1 J;obtain⟨b,N,H,_,ah⟩:=aj j ak;simp only[Option.some.injEq] at H;subst H;have U:(⟨b,N,none⟩:Addr).add j=⟨b,N+j,none⟩:=by
   unfold Addr.add;split
   ·rename_i Y;subst Y;rfl
   ·rfl
  rw[U,ah,List.getD_eq_getElem?_getD,J];rfl) (by
  intro u ar;obtain⟨y,_,rfl⟩:=List.mem_map.1 ar
  rfl) ad ag ae
 unfold jn execOp;simp only[al,resolve,invoke,builtin,Sem.run_bind,Sem.run_pure,Result.andThen_ok,List.map_toArray,List.map_cons,List.map_nil,ao,au,an];exact h v' w' (by simpa using aa) ab ac
theorem XU {P:Program} {w:World} {o:Oper} {a:Act} {C:World->Prop} {K:Act->World->Prop} (s x:Operand) (t:TypeId)
  (J:o.op= .call {callee:= .builtin .append,args:= #[s,x],argTypes:= #[t,t]})
  (base:Nat) (e:TypeId) (i:TypeInfo) (z:Value) (bytes:Nat) (O:P.underlying t=some (.slice e)) (hi:P.info? e=some i) (al:i.zero=some z)
  (ak:i.size=1) (ab:i.bytes=bytes) (am:z.cells.size=1)
  (v:Value) (k:IntKind) (l:List Int) (N:a.eval s=v) (G:w.ownsRow base e 1 v l.length (l.map (Value.int k)))
  (U:Value) (d:List Int) (H:a.eval x=U) (I:SlI k w U d)
  (ae:(l.length+d.length)* bytes<=140737488355328) (ac:1<=bytes) (aa:base<=w.heap.size)
  (h: ∀v' w',w'.ownsRow base e 1 v' (l++d).length ((l++d).map (Value.int k))->w.grownBy w' v.ownBlock->(v'.ownBlock=v.ownBlock∨v'.ownBlock=some w.heap.size)->C w'/\K (a.put o.dst v') w'):jn P C o a w K:=by
 have ag:=I;obtain⟨an,cap,rfl,ao,ap,aq,ar,ah⟩:=I;cases an with
 | some ad=>exact XV s x t J base e i z bytes O hi al ak ab am v k l N G ad cap d H ag ae ac aa h
 | none=>
  have Y:cap=0:=ah rfl;subst Y;have ai:d=[]:=List.eq_nil_of_length_eq_zero τ;subst ai;have aj:=run_append_owned_none (P:=P) (w:=w) base t o.type e i 1 O hi v l.length (l.map (Value.int k)) G;have af:=h v w (by simpa using G) ⟨rfl,rfl,rfl,Nat.le_refl _,λ_ _ _=>rfl⟩ (Or.inl rfl);simp only[List.length_nil] at H;unfold jn execOp;simp only[J,resolve,invoke,builtin,Sem.run_bind,Sem.run_pure,Result.andThen_ok,List.map_toArray,List.map_cons,List.map_nil,N,H,aj];exact af
inductive Tr where
 | done
 | op (k:Nat) (b:Bool) (t:Tr)
 | br (ks:List Nat) (f:Nat->Tr)
def Tr.has:Nat->Tr->Bool
 | 0,.done=>true
 | n+1,.op _ _ t=>t.has n
 | n+1,.br ks f=>ks.all λk=>(f k).has n
 | _,_=>false
section
variable {P:Program} {ops:Array Oper} {md:Region.Mode} {C:World->Prop}
def trB (md:Region.Mode) (ops:Array Oper) (T:Nat):Tr->Array Bool->Bool
 | .done,listed=>(Region.ready md ops listed).isEmpty
 | .op k true t,listed=>decide (k<ops.size)&&decide (Region.ready md ops listed=[k])&&trB md ops T t (listed.setIfInBounds k true)
 | .op k false t,listed=>decide (k<ops.size)&&(Region.ready md ops listed).contains k&&Region.free md ops listed k&&((ops[k]?).map (JU ·.op)).getD false&&Wq md ops T k&&trB md ops T t (listed.setIfInBounds k true)
 | .br ks f,listed=> !ks.isEmpty&&decide (Region.ready md ops listed=ks)&&ks.all λk=>decide (k<ops.size)&&trB md ops T (f k) (listed.setIfInBounds k true)
def zk (P:Program) (ops:Array Oper) (T:Nat) (C:World->Prop) (Q:Act->World->Prop):Tr->Act->World->Prop
 | .done,a,w=>Q a w
 | .op k true t,a,w=>if Region.wanted (ops[k]?.getD default) (yielded ops a.tmps) then jn P (Dem T C k) (ops[k]?.getD default) a w (zk P ops T C Q t) else C w/\zk P ops T C Q t (a.put (ops[k]?.getD default).dst undef) w
 | .op k false t,a,w=>C w/\if Region.wanted (ops[k]?.getD default) (yielded ops a.tmps) then (ops[k]?.getD default).quiet P a C (λa'=>zk P ops T C Q t a' w) else zk P ops T C Q t (a.put (ops[k]?.getD default).dst undef) w
 | .br ks f,a,w=> ∀k∈ks,if Region.wanted (ops[k]?.getD default) (yielded ops a.tmps) then jn P (Dem T C k) (ops[k]?.getD default) a w (zk P ops T C Q (f k)) else C w/\zk P ops T C Q (f k) (a.put (ops[k]?.getD default).dst undef) w
theorem yQ {T:Nat} {Q:Act->World->Prop} (N:Region.noSelect ops=true): ∀(n:Nat) (t:Tr) (listed:Array Bool) (a:Act) (w:World),t.has n=true->
  trB md ops T t listed=true->zk P ops T C Q t a w->Qp P md ops T C Q n listed a w
 | 0,.done,_,_,_,_,hB,h=>⟨by simpa [trB] using hB,h⟩
 | 0,.op ..,_,_,_,hh,_,_=>by simp[Tr.has] at hh
 | 0,.br ..,_,_,_,hh,_,_=>by simp[Tr.has] at hh
 | _+1,.done,_,_,_,hh,_,_=>by simp[Tr.has] at hh
 | n+1,.op k true t,listed,a,w,hh,hB,h=>by
  simp only[trB,Bool.and_eq_true,decide_eq_true_eq] at hB;obtain⟨⟨O,J⟩,I⟩:=hB;have H:ops[k]? =some (ops[k]?.getD default):=by simp[O]
  generalize ops[k]?.getD default=o at H;refine⟨λd=>(by rw[J] at d;cases d),λi hi=> ?_⟩;rw[J] at hi;obtain rfl:i=k:=by simpa using hi
  unfold yn;unfold zk at h;simp only[H,Option.getD_some] at h ⊢;split
  ·rename_i G;rw[if_pos G] at h;exact wj (λa' w' _ U=>yQ N n t _ a' w' hh I U) h
  ·rename_i G;rw[if_neg G] at h;exact⟨yF h.1,yQ N n t _ _ w hh I h.2⟩
 | n+1,.op k false t,listed,a,w,hh,hB,h=>by
  simp only[trB,Bool.and_eq_true,decide_eq_true_eq] at hB;obtain⟨⟨⟨⟨⟨O,J⟩,ad⟩,Y⟩,af⟩,I⟩:=hB;have H:ops[k]? =some (ops[k]?.getD default):=by simp[O]
  generalize ops[k]?.getD default=o at H;rw[H] at Y;simp only[Option.map_some,Option.getD_some] at Y;unfold zk at h;simp only[H,Option.getD_some] at h;obtain⟨ab,h⟩:=h;obtain⟨v,ag,ac⟩: ∃v,gp P ops C o v a/\zk P ops T C Q t (a.put o.dst v) w:=by
   by_cases G:Region.wanted o (yielded ops a.tmps)=true
   ·rw[if_pos G] at h;exact wI Y G h
   ·rw[if_neg G] at h;exact⟨undef,.inr ⟨by simpa using G,rfl⟩,h⟩
  exact gU H (Region.noSelect_spec N) (Xw af) n listed a w ab (Region.free_spec H ad) (by simpa using J) ag
   (yQ N n t _ _ w hh I ac)
 | n+1,.br ks f,listed,a,w,hh,hB,h=>by
  simp only[trB,Bool.and_eq_true,decide_eq_true_eq,List.all_eq_true] at hB;obtain⟨⟨ae,J⟩,I⟩:=hB;simp only[Tr.has,List.all_eq_true] at hh;refine⟨λd=>(by rw[J] at d;subst d;simp at ae),λi hi=> ?_⟩
  ·rw[J] at hi;have O:=(I i hi).1;have aa:=(I i hi).2;have d:=h i hi;have H:ops[i]? =some (ops[i]?.getD default):=by simp[O]
   generalize ops[i]?.getD default=o at H;unfold yn;simp only[H,Option.getD_some] at d ⊢;split
   ·rename_i G;rw[if_pos G] at d;exact wj (λa' w' _ U=>yQ N n (f i) _ a' w' (hh i hi) aa U) d
   ·rename_i G;rw[if_neg G] at d;exact⟨yF d.1,yQ N n (f i) _ _ w (hh i hi) aa d.2⟩
end
section
variable {P:Program} {C:World->Prop} {l:List Oper} {T:Nat} {Q:Act->World->Prop} {k:Nat} {b:Bool} {o:Oper} {t:Tr} {a:Act} {w:World}
theorem zg (h:Q a w):zk P l.toArray T C Q .done a w:=h
theorem qH (G:l[k]? =some o) (H:Region.wanted o (yielded l.toArray a.tmps)=true) (d:C w) (h: ∀K:Act->Prop,(∀a,zk P l.toArray T C Q t a w->K a)->o.quiet P a C K):zk P l.toArray T C Q (.op k false t) a w:=by
 unfold zk;simp only[List.getElem?_toArray,G,Option.getD_some];rw[if_pos H];exact⟨d,h _ (λa h=>h)⟩
theorem jg (G:l[k]? =some o) (H:Region.wanted o (yielded l.toArray a.tmps)=false) (d:C w) (h:zk P l.toArray T C Q t (a.put o.dst undef) w):zk P l.toArray T C Q (.op k b t) a w:=by
 cases b
 all_goals
  unfold zk;simp only[List.getElem?_toArray,G,Option.getD_some];rw[if_neg (by rw[H];exact Bool.false_ne_true)];exact⟨d,h⟩
theorem qO (d:l[k]? =some o) (G:Region.wanted o (yielded l.toArray a.tmps)=true) (h: ∀K:Act->World->Prop,(∀a w,zk P l.toArray T C Q t a w->K a w)->jn P C o a w K):zk P l.toArray T C Q (.op k true t) a w:=by
 unfold zk;simp only[List.getElem?_toArray,d,Option.getD_some];rw[if_pos G];exact zm (λ_ h=>yF h) (h _ λa w h=>h)
theorem wP {i j:Nat} {t':Tr} (H:i≠j) (hi:zk P l.toArray T C Q (.op i true t) a w) (G:zk P l.toArray T C Q (.op j true t') a w):zk P l.toArray T C Q (.br [i,j] λk=>if k=i then t else t') a w:=by
 unfold zk at *;intro k d;simp at d;rcases d with rfl | rfl
 ·simpa using hi
 ·have: ¬k=i:=λe=>H e.symm
  simpa [this] using G
end
theorem gT {P:Program} {id:Nat} {Q:Exit->Act->World->Prop} {a:Act} {w:World} {l:List Oper} {C:World->Prop} (T:Nat) (t:Tr) (N:P.follows .mixedOrders=true)
  (d:(Region.noSelect l.toArray&&trB .any l.toArray T t (Array.replicate l.length false)&&t.has l.length)=true)
  (h:zk P l.toArray T C (Q .normal) t a (w.drewN 1)):(Code.region id l.toArray true).wp P Q a w:=by
 simp only[Bool.and_eq_true] at d;obtain⟨⟨G,H⟩,I⟩:=d;refine wp_region_any N (wT (T:=T) (C:=C) (Q:=Q .normal) (λ_ _ h=>h) _ _ _ _ ?_);have J:l.toArray.size=l.length:=by simp
 rw[J];exact yQ G _ t _ a _ I H h
theorem zB {P:Program} {id:Nat} {Q:Exit->Act->World->Prop} {a:Act} {w:World} {l:List Oper} (d:World) (T:Nat) (t:Tr) (H:P.follows .mixedOrders=true)
  (G:(Region.noSelect l.toArray&&trB .any l.toArray T t (Array.replicate l.length false)&&t.has l.length)=true)
  (h:zk P l.toArray T (λw'=> ∃x:qt d,w'=x.w') (Q .normal) t a (w.drewN 1)):(Code.region id l.toArray true).wp P Q a w:=
 gT (C:=λw'=> ∃x:qt d,w'=x.w') T t H G h
theorem wC {P:Program} {id:Nat} {Q:Exit->Act->World->Prop} {a:Act} {w:World} {l:List Oper} (S:Nat->Prop) (d:World) (T:Nat) (t:Tr) (H:P.follows .mixedOrders=true)
  (G:(Region.noSelect l.toArray&&trB .any l.toArray T t (Array.replicate l.length false)&&t.has l.length)=true)
  (h:zk P l.toArray T (λw'=> ∃x:qz S d,w'=x.w') (Q .normal) t a (w.drewN 1)):(Code.region id l.toArray true).wp P Q a w:=
 gT (C:=λw'=> ∃x:qz S d,w'=x.w') T t H G h
section
open Go.ChangeShapes Go.WideShapes Go.ChangeAt Go.RowKit
theorem Gb {w:World} {a:Addr} {v:Value} (h:w.cell? a=some v):a.spot=none/\a.block<w.heap.size:=by
 unfold World.cell? at h;split at h
 ·rename_i c t f d;split at h
  ·cases h
  ·rename_i G;refine⟨by simpa using G, ?_⟩;rcases Nat.lt_or_ge a.block w.heap.size with h' | h'
   ·exact h'
   ·simp[Array.getElem?_eq_none h'] at d
 ·cases h
theorem Byt.of_wf {l:List Int} (h: ∀n∈l,(Lit.int .u8 n).wf=true):Byt l:=by
 intro i;rw[List.getD_eq_getElem?_getD];by_cases hi:i<l.length
 ·rw[List.getElem?_eq_getElem hi,Option.getD_some];exact bounds_u8 (h _ (List.getElem_mem hi))
 ·rw[List.getElem?_eq_none τ];simp
end
section
open Go.ChangeShapes Go.WideShapes Go.Deep
abbrev qL (α:Type):=World->List Value->α->Prop
def jC (P:Program) (t:TypeId) {α:Type} (R:qL α):Prop:=
 ∀(H:Type) (enc:TypeId×Value->H) (w:World) (base:Nat) (spare:Nat->Bool) (held:Bool) (fuel:Nat) (cs:List Value) (x:DataW H×List MemPlace),
  DataW.trod enc P w base spare held fuel t cs=some x-> ∃y,R w cs y
def QQ {α:Type} (R:qL α):Prop:= ∀(w w':World) (cs:List Value) (y:α),qa w w'->R w cs y->R w' cs y
def yW (k:IntKind):qL Int:=λ_ cs n=>cs=[.int k n]/\(Lit.int k n).wf=true
def DS:qL Bool:=λ_ cs b=>cs=[.bool b]
def Gp:qL Unit:=λ_ cs _=>cs=[]
def zf {α β:Type} (n:Nat) (R:qL α) (Q:qL β):qL (α×β):=λw cs y=>R w (cs.take n) y.1/\Q w (cs.drop n) y.2
def LK {α:Type} (m n:Nat) (R:qL α):qL (List α):=λw cs L=>cs.length=m* n/\L.length=m/\ ∀i (hi:i<L.length),R w ((cs.drop (i* n)).take n) L[i]
def SlP {α:Type} (n:Nat) (R:qL α) (w:World) (v:Value) (L:List α):Prop:=
 ∃oa cap,v= .slice oa L.length cap/\(L.length:Int)<=9223372036854775807/\
  (∀i (hi:i<L.length),∃b off cs,oa=some ⟨b,off,none⟩/\b<w.heap.size/\cs.length=n/\(∀j,j<n->w.cell? ⟨b,off+i* n+j,none⟩=cs[j]?)/\R w cs L[i])/\
  L.length<=cap/\cap<=maxLen/\(oa=none->cap=0)
def RSl {α:Type} (n:Nat) (R:qL α):qL (List α):=λw cs L=> ∃v,cs=[v]/\SlP n R w v L
theorem SlP.keep {α:Type} {n:Nat} {R:qL α} {w w':World} {v:Value} {L:List α} (N:QQ R) (h:SlP n R w v L) (m:qa w w'):SlP n R w' v L:=by
 obtain⟨ab,cap,G,H,I,J⟩:=h;refine⟨ab,cap,G,H,λi hi=> ?_,J⟩;obtain⟨b,ac,cs,e,d,Y,O,aa⟩:=I i hi;exact⟨b,ac,cs,e,Nat.lt_of_lt_of_le d m.size,Y,λj U=>by rw[m.cells b _ d];exact O j U,N _ _ _ _ m aa⟩
section
variable {P:Program} {t e:TypeId}
theorem jC.int {k:IntKind} (d:P.underlying t=some (.int k)):jC P t (yW k):=λ_ _ _ _ _ _ _ _ _ h=>by
 obtain⟨n,rfl,_,G⟩:=DataW.trod_int d h;exact⟨n,rfl,G⟩
theorem jC.bool (d:P.underlying t=some .bool):jC P t DS:=λ_ _ _ _ _ _ _ _ _ h=>by
 obtain⟨n,rfl,_⟩:=DataW.trod_bool d h;exact⟨n,rfl⟩
theorem SlP.nil {α:Type} (n:Nat) (R:qL α) (w:World):SlP n R w (δ none 0 0) []:=⟨none,0,rfl,η,λi hi=>by simp at hi,η,by unfold maxLen;omega,λ_=>rfl⟩
theorem uE {α:Type} {p:Nat->α->Prop}: ∀(n:Nat),(∀i,i<n-> ∃y,p i y)-> ∃L:List α,L.length=n/\ ∀i (hi:i<L.length),p i L[i]
 | 0,_=>⟨[],rfl,λi hi=>by simp at hi⟩
 | n+1,h=>by
  obtain⟨L,d,G⟩:=uE n (λi hi=>h i τ);obtain⟨y,H⟩:=h n τ;refine⟨L++[y],by simp[d],λi hi=> ?_⟩;simp at hi;by_cases e:i<L.length
  ·rw[List.getElem_append_left e];exact G i e
  ·obtain rfl:i=L.length:=by omega
   simp[d,H]
theorem jC.sl {α:Type} {n:Nat} {R:qL α} (au:P.underlying t=some (.slice e)) (ao:P.cellsOf e=n) (aG:1<=n) (h:jC P e R):jC P t (RSl n R):=λad ae w base az aj aC cs x aw=>by
 rcases open_slice au aw with ⟨rfl,_⟩ | ⟨a,ac,cap,m,ay,D,aA,rfl,aD,am,Y,an,_,hi⟩
 ·exact⟨[],_,rfl,SlP.nil n R w⟩
 ·have aF:ac<=m:=by rw[an];split<;>omega
  rw[ao] at hi
  obtain⟨L,H,aa⟩:=uE (p:=λi y=> ∃cs,w.cells? base (a.add (i* n)) n=some cs/\R w cs y) ac (λi U=>by
   obtain⟨cs',I,av⟩:=hi i τ;obtain⟨y,ax⟩:=h ad ae w base az aj ay cs' _ av
   exact⟨y,cs',I,ax⟩)
  refine⟨L,_,rfl,some a,cap,by rw[H],by rw[H];unfold maxLen at Y;omega,λi U=> ?_,by rw[H];exact am,Y,λh=>by cases h⟩;obtain⟨cs',I,ap⟩:=aa i U;obtain⟨_,ai,O⟩:=World.cells?_some I;have G:=O 0 τ;rw[List.getElem?_eq_getElem τ] at G;have aq:=Gb G;obtain⟨b,d,sp⟩:=a;have N: ∀k,(⟨b,d,sp⟩:Addr).add k=⟨b,d+k,if k=0 then sp else none⟩:=by
   intro k;unfold Addr.add;split
   ·rename_i al;subst al;rfl
   ·rfl
  have ag:b<w.heap.size:=by
   have:=aq.2;rw[N] at this;unfold Addr.add at this;exact this
  have ar:sp=none:=by
   obtain⟨aB,ah,_⟩:=aa 0 τ;obtain⟨_,aE,af⟩:=World.cells?_some ah;have J:=af 0 τ;rw[List.getElem?_eq_getElem τ] at J;have ab:=(Gb J).1;simp[Addr.add] at ab;exact ab
  subst ar;refine⟨b,d,cs',rfl,ag,ai,λj ak=> ?_,ap⟩;rw[<-O j ak,N];have:(⟨b,d+i* n,if i* n=0 then none else none⟩:Addr)=⟨b,d+i* n,none⟩:=by split<;>rfl
  rw[this];unfold Addr.add;split
  ·rename_i G;subst G;rfl
  ·rfl
def jH (P:Program) (fs:List Field) (off:Nat) {α:Type} (R:qL α):Prop:=
 ∀(H:Type) (enc:TypeId×Value->H) (w:World) (base:Nat) (spare:Nat->Bool) (held:Bool) (n total:Nat) (cs:List Value),cs.length=total->total=off+(fs.map λf=>P.cellsOf f.type).sum->
  (∀f∈fs,∃x,DataW.trod enc P w base spare held n f.type ((cs.drop f.offset).take (P.cellsOf f.type))=some x)-> ∃y,R w (cs.drop off) y
theorem jH.nil {G:Nat}:jH P [] G Gp:=λ_ _ _ _ _ _ _ _ cs H d _=>⟨(),by
 simp at d
 exact List.drop_eq_nil_of_le τ⟩
theorem jH.cons {α β:Type} {f:Field} {I:List Field} {d n:Nat} {R:qL α} {Q:qL β} (ac:f.offset=d) (N:P.cellsOf f.type=n) (h:jC P f.type R) (k:jH P I (d+n) Q):jH P (f::I) d (zf n R Q):=λG H w base Y J m ag cs ab ad O=>by
 obtain⟨x,ae⟩:=O f η;obtain⟨y,U⟩:=h G H w base Y J m _ x ae;obtain⟨z,af⟩:=k G H w base Y J m ag cs ab (by rw[ad];simp[N];omega) (λg aa=>O g (by simp[aa]));rw[ac,N] at U;exact⟨(y,z),U,by rw[List.drop_drop];exact af⟩
theorem jC.struct {α:Type} {d:Array Field} {R:qL α} (aa:P.underlying t=some (.struct d)) (I:P.cellsOf t=(d.toList.map λf=>P.cellsOf f.type).sum) (h:jH P d.toList 0 R):jC P t R:=λG H w base ad J ae cs x ab=>by
 obtain⟨xs,n,_,_,Y,af,N⟩:=DataW.trod_struct aa ab
 obtain⟨y,ac⟩:=h G H w base ad J n _ cs rfl (by rw[Y,I];omega) (λf O=>by
  obtain⟨i,hi,rfl⟩:=List.mem_iff_getElem.1 O;have U:i<d.size:=by simpa using hi
  have:=N i d[i] (by simp[U]);rw[List.getElem?_eq_getElem τ] at this
  exact⟨_,by simpa using this⟩)
 exact⟨y,by simpa using ac⟩
theorem jC.arr {α:Type} {m n:Nat} {R:qL α} (aa:P.underlying t=some (.array m e)) (U:P.cellsOf e=n) (J:P.cellsOf t=m* n) (h:jC P e R):jC P t (LK m n R):=λG H w base ad N ae cs x ab=>by
 obtain⟨xs,ac,_,_,O,af,d⟩:=DataW.trod_array aa ab;rw[U] at d
 obtain⟨L,I,Y⟩:=uE (p:=λi y=>R w ((cs.drop (i* n)).take n) y) m (λi hi=>by
  have:=d i hi;rw[List.getElem?_eq_getElem τ] at this
  exact h G H w base ad N ac _ _ this)
 exact⟨L,by rw[O,J],I,Y⟩
end
theorem SlP.ints {k:IntKind} {w:World} {v:Value} {L:List Int} (h:SlP 1 (yW k) w v L):SlI k w v L/\ ∀n∈L,(Lit.int k n).wf=true:=by
 obtain⟨ac,cap,N,O,d,U⟩:=h;refine⟨⟨ac,cap,N,O,λi hi=> ?_,U⟩,λn aa=> ?_⟩
 ·obtain⟨b,J,cs,e,G,Y,H,I,_⟩:=d i hi;refine⟨b,J,e,G, ?_⟩;have:=H 0 τ;rw[I] at this
  simpa [hi] using this
 ·obtain⟨i,hi,rfl⟩:=List.mem_iff_getElem.1 aa;obtain⟨b,J,cs,e,G,Y,H,I,ab⟩:=d i hi;exact ab
end
def jw {α:Type} (R:qL α) (D:Nat->Prop) (w:World) (cs:List Value) (y:α):Prop:= ∀w',qg D w w'->R w' cs y
section
variable {α:Type} {R:qL α} {D D':Nat->Prop} {w w':World} {cs:List Value} {y:α}
theorem jw.read (h:jw R D w cs y):R w cs y:=h w (qg.refl D w)
theorem jw.step (h:jw R D w cs y) (a:qg D w w'):jw R D w' cs y:=λ_ b=>h _ (a.trans b)
theorem jw.on (h:jw R D w cs y) (a:qa w w'):jw R D w' cs y:=h.step (qg.of_more a)
theorem jw.other (h:jw R D w cs y) (k: ∀b,D' b->D b∨w.heap.size<=b):jw R D' w cs y:=λw' a=>
 h w' ⟨a.os,a.tape,a.output,a.size,λb d G=>a.block b d (λx=>by
  rcases k b x with e | e
  ·exact G e
  ·omega)⟩
theorem jw.old (d:QQ R) (h:R w cs y) (k: ∀b,D b->w.heap.size<=b):jw R D w cs y:=λw' a=>
 d w w' cs y ⟨a.os,a.tape,a.output,a.size,λb G=>a.block b G (λx=>by have:=k b x;omega)⟩ h
end
theorem SlI.off {k:IntKind} {D:Nat->Prop} {w w':World} {v:Value} {l:List Int} (h:SlI k w v l) (J: ∀b,v.ownBlock=some b-> ¬D b) (a:qg D w w'):SlI k w' v l:=by
 obtain⟨O,cap,rfl,G,H,I⟩:=h;refine⟨O,cap,rfl,G,λi hi=> ?_,I⟩;obtain⟨b,off,rfl,d,N⟩:=H i hi;exact⟨b,off,rfl,Nat.lt_of_lt_of_le d a.size,by rw[a.cells b _ d (J b rfl)];exact N⟩
theorem SlP.of_ints {k:IntKind} {w:World} {v:Value} {l:List Int} (h:SlI k w v l) (O: ∀n∈l,(Lit.int k n).wf=true):SlP 1 (yW k) w v l:=by
 obtain⟨U,cap,G,H,I,J⟩:=h;refine⟨U,cap,G,H,λi hi=> ?_,J⟩;obtain⟨b,Y,e,N,d⟩:=I i hi;refine⟨b,Y,[.int k l[i]],e,N,rfl,λj aa=> ?_,rfl,O _ (List.getElem_mem hi)⟩;obtain rfl:j=0:=by omega
 simp at d ⊢;rw[d];simp[hi]
structure je {α:Type} (n:Nat) (R:qL α) (D:Nat->Prop) (w:World) (base e:Nat) (v:Value) (L:List α):Prop where
 row: ∃xs,w.ownsRow base e n v L.length xs/\ ∀i (hi:i<L.length),jw R (λk=>D k∨v.ownBlock=some k) w ((xs.drop (i* n)).take n) L[i]
 apart: ∀b,v.ownBlock=some b-> ¬D b
section
variable {α:Type} {n:Nat} {R:qL α} {D:Nat->Prop} {w w':World} {base e:Nat} {v:Value} {L:List α}
theorem je.nil (n:Nat) (R:qL α) (D:Nat->Prop) (w:World) (base e:Nat):je n R D w base e (δ none 0 0) []:=
 ⟨⟨[],World.ownsRow_nil w base e n,λi hi=>by simp at hi⟩,λb h=>by cases h⟩
theorem je.step (h:je n R D w base e v L) (a:qg D w w'):je n R D w' base e v L:=by
 obtain⟨⟨xs,⟨G,H⟩,I⟩,d⟩:=h;refine⟨⟨xs,⟨G, ?_⟩,λi hi=>(I i hi).step (a.mono λk J=>Or.inl J)⟩,d⟩;rcases H with h | ⟨g,cap,cur,e1,hb,hg,rest⟩
 ·exact Or.inl h
 ·exact Or.inr ⟨g,cap,cur,e1,hb,a.blk hg (d g (by rw[e1];rfl)),rest⟩
theorem je.on (h:je n R D w base e v L) (a:qa w w'):je n R D w' base e v L:=h.step (qg.of_more a)
theorem je.shape (h:je n R D w base e v L): ∃oa m cap,v= δ oa m cap/\m=L.length/\L.length<=cap:=by
 obtain⟨⟨xs,d,_⟩,_⟩:=h;rcases d.2 with ⟨rfl,e⟩ | ⟨b,cap,cur,rfl,_,_,G,_⟩
 ·exact⟨none,0,0,rfl,τ,τ⟩
 ·exact⟨_,_,cap,rfl,rfl,G⟩
theorem je.lt (h:je n R D w base e v L) {b:Nat} (d:v.ownBlock=some b):b<w.heap.size:=by
 obtain⟨⟨xs,H,_⟩,_⟩:=h;rcases H.2 with ⟨rfl,_⟩ | ⟨G,cap,cur,rfl,_,I,_⟩
 ·cases d
 ·obtain rfl:G=b:=by injection d
  exact lt_of_block I
theorem je.ge (h:je n R D w base e v L) {b:Nat} (d:v.ownBlock=some b):base<=b:=by
 obtain⟨⟨xs,H,_⟩,_⟩:=h;rcases H.2 with ⟨rfl,_⟩ | ⟨G,cap,cur,rfl,I,_⟩
 ·cases d
 ·obtain rfl:G=b:=by injection d
  exact I
theorem je.sl (h:je n R D w base e v L) (ad:0<n):SlP n R w v L:=by
 obtain⟨⟨xs,⟨I,J⟩,N⟩,_⟩:=h;rcases J with ⟨rfl,H⟩ | ⟨g,cap,cur,rfl,ab,G,Y,d,ac,aa⟩
 ·obtain rfl:L=[]:=List.eq_nil_of_length_eq_zero H;exact SlP.nil n R w
 ·refine⟨_,cap,rfl,by unfold maxLen at d;omega,λi hi=>⟨g,0,_,rfl,lt_of_block G, ?_,λj U=> ?_,(N i hi).read⟩,Y,d,λh=>by cases h⟩
  ·have O:i* n+n<=L.length* n:=by
    have:(i+1)* n<=L.length* n:=Nat.mul_le_mul_right n hi;rw[Nat.add_mul,Nat.one_mul] at this;exact this
   rw[List.length_take,List.length_drop,I];omega
  ·have O:i* n+n<=L.length* n:=by
    have:(i+1)* n<=L.length* n:=Nat.mul_le_mul_right n hi;rw[Nat.add_mul,Nat.one_mul] at this;exact this
   rw[Nat.zero_add,cell_of_row w g _ cur e (0,0) G,List.getElem?_take,if_pos U,List.getElem?_drop,<-aa,List.getElem?_take,if_pos τ];simp
end
theorem uI {P:Program} (w:World) (base:Nat) (t aa e:TypeId) (i:TypeInfo) (z:Value) (n bytes:Nat) (aw:P.underlying t=some (.slice e)) (hi:P.info? e=some i) (ay:i.zero=some z)
  (av:i.size=n) (ah:i.bytes=bytes) (az:z.cells.size=n) (ao:0<n)
  {α:Type} {R:qL α} {D:Nat->Prop} (v:Value) (L:List α) (ar:je n R D w base e v L)
  (B:Nat) (cs:List Value) (y:α) (am:cs.length=n) (ap: ∀j u,cs[j]? =some u->w.cell? ⟨B,j,none⟩=some u) (ad: ∀u∈cs,u.oneCell'=true)
  (ax:jw R (λk=>D k∨v.ownBlock=some k) w cs y) (ae: ∀b,D b->b<w.heap.size)
  (aA:1<=bytes) (ai:(L.length+1)* bytes<=140737488355328) (ag:base<=w.heap.size):
  ∃v' w',(Builtin.append_ #[t,t] aa #[v,δ (some ⟨B,0,none⟩) 1 1]).run P w= .ok v' w'/\je n R D w' base e v' (L++[y])/\w.grownBy w' v.ownBlock/\(v'.ownBlock=v.ownBlock∨v'.ownBlock=some w.heap.size):=by
 obtain⟨⟨xs,N,ak⟩,af⟩:=ar;have an:L.length+1<=maxLen:=by
  have:=Nat.le_mul_of_pos_right (L.length+1) (show 0<bytes by omega);unfold maxLen;omega
 obtain⟨v',w',au,aq,G,_,d⟩:=run_append_own_at (P:=P) w base t aa e i z n bytes aw hi ay av ah az ao v L.length xs N ⟨B,0,none⟩ 1 1 cs (by rw[am,Nat.one_mul]) (by
  intro j u al;have ab:(⟨B,0,none⟩:Addr).add j=⟨B,j,none⟩:=by
   unfold Addr.add;split
   ·rename_i ac;subst ac;rfl
   ·simp
  rw[ab];exact ap j u al) ad an ai ag
 have aj: ∀k (J:k<(L++[y]).length),jw R (λk=>D k∨v.ownBlock=some k) w (((xs++cs).drop (k* n)).take n) (L++[y])[k]:=by
  intro k J;simp at J;by_cases e:k<L.length
  ·have aB:k* n+n<=L.length* n:=by
    have:(k+1)* n<=L.length* n:=Nat.mul_le_mul_right n e;rw[Nat.add_mul,Nat.one_mul] at this;exact this
   have aC:=N.1;have O:((xs++cs).drop (k* n)).take n=(xs.drop (k* n)).take n:=by
    rw[List.drop_append_of_le_length τ,List.take_append_of_le_length (by rw[List.length_drop];omega)]
   rw[O,List.getElem_append_left e];exact ak k e
  ·obtain rfl:k=L.length:=by omega
   have O:((xs++cs).drop (L.length* n)).take n=cs:=by
    rw[List.drop_append_of_le_length (by rw[N.1];exact Nat.le_refl _),List.drop_eq_nil_of_le (by rw[N.1];exact Nat.le_refl _),List.nil_append];exact List.take_of_length_le τ
   rw[O]
   simpa using ax
 refine⟨v',w',au,⟨⟨xs++cs,by simpa using aq,λk J w'' a'=> ?_⟩, ?_⟩,G,d⟩
 ·refine aj k J w'' ⟨a'.os.trans G.os,a'.tape.trans G.tape,a'.output.trans G.output,Nat.le_trans G.size a'.size,λb H U=> ?_⟩;rw[a'.block b (Nat.lt_of_lt_of_le H G.size) ?_]
  ·exact G.block b H (λe=>U (Or.inr e.symm))
  ·rintro(I | I)
   ·exact U (Or.inl I)
   ·rcases d with d | d
    ·exact U (Or.inr (by rw[<-d];exact I))
    ·rw[d] at I;have:w.heap.size=b:=by injection I
     omega
 ·intro b H Y;rcases d with d | d
  ·exact af b (by rw[<-d];exact H) Y
  ·rw[d] at H;have:w.heap.size=b:=by injection H
   have:=ae b Y;omega
theorem jN {P:Program} (w:World) {ops:Array Oper} {rest:List Oper} {o:Oper} {a:Act} {Q:Exit->Act->World->Prop} (ab:o.guard=none) (s x:Operand) (t:TypeId)
  (af:o.op= .call {callee:= .builtin .append,args:= #[s,x],argTypes:= #[t,t]})
  (base:Nat) (e:TypeId) (i:TypeInfo) (z:Value) (n bytes:Nat) (ak:P.underlying t=some (.slice e)) (hi:P.info? e=some i) (an:i.zero=some z)
  (aj:i.size=n) (U:i.bytes=bytes) (ao:z.cells.size=n) (ad:0<n)
  {α:Type} {R:qL α} {D:Nat->Prop} (v:Value) (L:List α) (ai:a.eval s=v) (ag:je n R D w base e v L)
  (B:Nat) (cs:List Value) (y:α) (al:a.eval x= δ (some ⟨B,0,none⟩) 1 1) (ac:cs.length=n) (ae: ∀j u,cs[j]? =some u->w.cell? ⟨B,j,none⟩=some u) (d: ∀u∈cs,u.oneCell'=true)
  (am:jw R (λk=>D k∨v.ownBlock=some k) w cs y) (J: ∀b,D b->b<w.heap.size)
  (Y:1<=bytes) (aa:(L.length+1)* bytes<=140737488355328) (O:base<=w.heap.size)
  (h: ∀v' w',je n R D w' base e v' (L++[y])->w.grownBy w' v.ownBlock->(v'.ownBlock=v.ownBlock∨v'.ownBlock=some w.heap.size)->wpList P ops Q rest (a.put o.dst v') w'):wpList P ops Q (o::rest) a w:=by
 refine wpList_plain ab λK N=> ?_
 obtain⟨v',w',ah,G,H,I⟩:=uI (P:=P) w base t o.type e i z n bytes ak hi an aj U ao ad v L ag B cs y ac ae d am J Y aa O;unfold Oper.wp execOp;simp only[af,resolve,invoke,builtin,Sem.run_bind,Sem.run_pure,Result.andThen_ok,List.map_toArray,List.map_cons,List.map_nil,ai,al,ah];exact N _ _ (h v' w' G H I)
theorem zK {P:Program} {w:World} {o:Oper} {a:Act} {C:World->Prop} {K:Act->World->Prop} (s x:Operand) (t:TypeId)
  (ad:o.op= .call {callee:= .builtin .append,args:= #[s,x],argTypes:= #[t,t]})
  (base:Nat) (e:TypeId) (i:TypeInfo) (z:Value) (n bytes:Nat) (ai:P.underlying t=some (.slice e)) (hi:P.info? e=some i) (al:i.zero=some z)
  (ah:i.size=n) (O:i.bytes=bytes) (am:z.cells.size=n) (ab:0<n)
  {α:Type} {R:qL α} {D:Nat->Prop} (v:Value) (L:List α) (ag:a.eval s=v) (ae:je n R D w base e v L)
  (B:Nat) (cs:List Value) (y:α) (aj:a.eval x= δ (some ⟨B,0,none⟩) 1 1) (aa:cs.length=n) (ac: ∀j u,cs[j]? =some u->w.cell? ⟨B,j,none⟩=some u) (d: ∀u∈cs,u.oneCell'=true)
  (ak:jw R (λk=>D k∨v.ownBlock=some k) w cs y) (J: ∀b,D b->b<w.heap.size)
  (U:1<=bytes) (Y:(L.length+1)* bytes<=140737488355328) (N:base<=w.heap.size)
  (h: ∀v' w',je n R D w' base e v' (L++[y])->w.grownBy w' v.ownBlock->(v'.ownBlock=v.ownBlock∨v'.ownBlock=some w.heap.size)->C w'/\K (a.put o.dst v') w'):jn P C o a w K:=by
 obtain⟨v',w',af,G,H,I⟩:=uI (P:=P) w base t o.type e i z n bytes ai hi al ah O am ab v L ae B cs y aa ac d ak J U Y N;unfold jn execOp;simp only[ad,resolve,invoke,builtin,Sem.run_bind,Sem.run_pure,Result.andThen_ok,List.map_toArray,List.map_cons,List.map_nil,ag,aj,af];exact h v' w' G H I
end Go.Proofs.YtlmllmonabafjaaGreatDoor
