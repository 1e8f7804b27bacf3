/- x -/
import Derived.Test.YtlmllmonabafjaaGreatDoorMi7
namespace Go.Proofs.YtlmllmonabafjaaGreatDoor
open Option renaming some->ϊ,none->ϋ
open Bool renaming true->ό,false->ύ
open Go.Value renaming bool->μ,slice->δ,pointer->π,agg->θ
open Go.IntKind renaming i64->ι,u8->υ,u16->φ,u32->ω,i32->χ,u64->ψ
open _root_.Go.Proofs.Tryz
set_option linter.all false
set_option maxHeartbeats 8000000
open Go.RowKit
set_option maxRecDepth 100000
variable {w w' H I:World} {s s':RdS} {cs Z:Array Value} {W:List (Int×List Int)} {t:Int} {v:Value} {Br hi R n B d j G base cap:Nat} {xs:List Value} {b l:List Int} {q:Pk} {α:Type}
structure PrS (w0 w:World) (R hi Br B5 B7 B8:Nat) (s:RdS) (t:Int) (cs:Array Value):Prop where
 rd:qu w R s.1 s.2 (λg=>g<hi)
 more:ql w0 w
 br:w.heap[Br]? =ϊ (.cells #[.bool ύ,.bool ύ,.int .u8 0,.int .i64 0,.bool ύ,.int .i64 0,.int .i64 0,.bool ύ,.int .i64 0] 366 (0,0))
 b5:w.heap[B5]? =ϊ (.cells #[.pointer (ϊ ⟨R,0,ϋ⟩)] 156 (0,0))
 b7:w.heap[B7]? =ϊ (.cells #[.int .u8 t] 5 (0,0))
 b8:w.heap[B8]? =ϊ (.cells cs 366 (0,0))
 n0:w0.heap.size<=Br
 nR:Br<R
 n1:R<hi
 n5:hi<=B5
 n7:B5<B7
 n8:B7<B8
def PrS.step {H:Nat} (h:PrS I w R hi Br d G H s t cs) (r:qu w' R s'.1 s'.2 (λg=>g<hi)) (a:jt (λb=>b=R) w w'):PrS I w' R hi Br d G H s' t cs:=by
 have:=h.n0;have:=h.nR;have:=h.n1;have:=h.n5;have:=h.n7;have:=h.n8;exact⟨r,jt.to_more h.more a (λk J=>by omega),a.blk h.br τ,a.blk h.b5 τ,a.blk h.b7 τ,a.blk h.b8 τ,h.n0,h.nR,h.n1,h.n5,h.n7,h.n8⟩
def PrS.on {H:Nat} (h:PrS I w R hi Br d G H s t cs) (m:ql w w'):PrS I w' R hi Br d G H s t cs:=
 ⟨h.rd.more m,h.more.trans m,qq m h.br,qq m h.b5,qq m h.b7,qq m h.b8,h.n0,h.nR,h.n1,h.n5,h.n7,h.n8⟩
def PrS.put8 {H:Nat} (h:PrS I w R hi Br G H d s t cs) (i:Nat) (v:Value):PrS I (w.setCell ⟨d,i,ϋ⟩ v) R hi Br G H d s t (cs.setIfInBounds i v):=by
 have:=h.n0;have:=h.nR;have:=h.n1;have:=h.n5;have:=h.n7;have:=h.n8;have a:jt (λb=>b=d) w (w.setCell ⟨d,i,ϋ⟩ v):=(jt.refl (λb=>b=d) w).set (p:=⟨d,i,ϋ⟩) rfl _;exact⟨h.rd.off a τ (λg J e=>by omega),h.more.st (p:=⟨d,i,ϋ⟩) (by show _<=d;omega) _,a.blk h.br τ,a.blk h.b5 τ,a.blk h.b7 τ,qp h.b8 i v,h.n0,h.nR,h.n1,h.n5,h.n7,h.n8⟩
def Zt (h:Byt s.1):0<=nB s/\nB s<=255:=by
 have:=zv (tkB s.1 1) 1 (jL h 1) (zh s.1 1 ζ) ζ;unfold nB;omega
def dC (f pic:Int) (wd:Bool) (bs tr:Int) (sy:Bool) (ky:Int):Array Value:= #[.bool (bit f 32),.bool (bit f 16),.int .u8 (f%8),.int .i64 pic,.bool wd,.int .i64 bs,.int .i64 tr,.bool sy,.int .i64 ky]
def PrQ (w0 w':World) (R hi Br B5 B7 B8 B10:Nat) (s:RdS) (t:Int) (cs:Array Value) (q:Int):Prop:=PrS w0 w' R hi Br B5 B7 B8 s t cs/\w'.heap[B10]? =ϊ (.cells #[.int .u64 q] 231 (0,0))
def CQ (s:RdS):Int:=if nB s<128 then nB s else (nB s-128)* 256+nB (tkS s 1)
def CS (s:RdS):RdS:=if nB s<128 then tkS s 1 else tkS (tkS s 1) 1
def CO (s:RdS):Bool:=decide (¬nB s<128)
def FK {ad:World} {J N M:Nat} {f:Int} (h:PrS ad w R hi Br J N M s t (dC f 0 ύ 0 0 ύ 0)):
  Calls prog 251 #[γ J,γ M] w λe w'=>e= .returned (ι (CQ s))/\PrS ad w' R hi Br J N M (CS s) t (dC f 0 (CO s) 0 0 ύ 0):=by
 unfold CQ CS CO;have ak:=Zt h.rd.byt;have ab:Byt (tkS s 1).1:=h.rd.byt.drop _;have al:=Zt ab;have c5:=β0 h.b5;have H:=κ h;have Y:num (tkB s.1 1)=nB s:=rfl;have aa:num (tkB (tkS s 1).1 1)=nB (tkS s 1):=rfl;have O:=κ Y;have ae:=κ aa;clear h Y aa ab;by_cases hn:nB s<128
 ·rw[ϐ hn,ϐ hn,ϫ τ];generalize ag:nB s=q at *;clear ag
  go_enter func251,ntmps251
  go_wp2_with (go_at_call 52;((with_reducible refine(jT H.o.rd).mono ?_);rintro e w1 ⟨rfl,G,d⟩;rw[O.o];have I:=κ (H.o.step (s':=tkS s 1) G d);clear G d))
  go_ret;exact⟨rfl,I.o⟩
 ·rw[ώ hn,ώ hn,ϭ τ];generalize nB s=q at *;generalize ah:nB (tkS s 1)=q2 at *;clear ah
  go_enter func251,ntmps251
  go_wp2_with first | (go_at_call 52;((with_reducible refine(jT H.o.rd).mono ?_);rintro e w1 ⟨rfl,G,d⟩;rw[O.o];have I:=κ ((H.o.step (s':=tkS s 1) G d).put8 4 (μ ό));have ai:=qm (H.o.step (s':=tkS s 1) G d).b8 4 (v:= μ ύ) rfl;have am:=yw (H.o.step (s':=tkS s 1) G d).b8 4;have aj:=β0 I.o.b5;clear G d)) | (go_at_call 52;((with_reducible refine(jT I.o.rd).mono ?_);rintro e w2 ⟨rfl,ac,U⟩;rw[ae.o];have af:=κ (I.o.step (s':=tkS (tkS s 1) 1) ac U);clear ac U))
  go_ret;exact⟨rfl,af.o⟩
def FZ {O:World} {H:Nat} (h:PrS O w R hi Br d G H s t cs):
  Calls prog 252 #[γ d] w λe w'=>e= .returned (ι (nB s))/\PrS O w' R hi Br d G H (tkS s 1) t cs:=by
 have aa:=Zt h.rd.byt;have c5:=β0 h.b5;have I:=κ h;have M:num (tkB s.1 1)=nB s:=rfl;have U:=κ M;clear h M;generalize nB s=q at *
 go_enter func252,ntmps252
 go_wp2_with (go_at_call 52;((with_reducible refine(jT I.o.rd).mono ?_);rintro e w1 ⟨rfl,N,J⟩;rw[U.o];have Y:=κ (I.o.step (s':=tkS s 1) N J);clear N J))
 go_ret;exact⟨rfl,Y.o⟩
def Hg {q:Int} (h:0<=q/\q<=255):fld q 5 1=q/32%2/\fld q 6 2=q/64/\fld q 0 5=q%32:=by
 have t0:two 0=1:=by decide
 have t1:two 1=2:=by decide
 have t2:two 2=4:=by decide
 have t5:two 5=32:=by decide
 have d:two 6=64:=by decide
 unfold fld;refine⟨?_, ?_, ?_⟩
 ·rw[ϐ (show May 5 1 by unfold May;decide),t5,t1]
 ·rw[ϐ (show May 6 2 by unfold May;decide),d,t2];omega
 ·rw[ϐ (show May 0 5 by unfold May;decide),t0,t5];omega
def Cx {ag:World} {M N:Nat} {q:Int} {f af U:Int} {ah:Bool} (h:PrQ ag w R hi Br M N d G s t (dC f af ah U 0 ύ 0) q) (ac:0<=q/\q<=255) (av:d<G):
  Calls prog 253 #[γ G,γ d] w λe w'=>e= .returned (ι (q/64))/\PrQ ag w' R hi Br M N d G s t (dC f af ah U 0 (bit q 32) 0) q:=by
 obtain⟨h,J⟩:=h;obtain⟨Y,aa,ap⟩:=Hg ac;have ad:U64 q:=by unfold U64;omega
 have ab:(q/32%2==1)=bit q 32:=by unfold bit;rw[E0];simp
 have ai:=κ Y;have aj:=κ aa;have ao:=κ ab;have aq:=β0 J;have I:=κ h;have am:=κ J;obtain⟨ax,ay⟩:=ac;have az:q/64<=3:=by omega
 have aA:0<=q/64:=by omega
 clear h J Y aa ap ab;generalize q/64=q6 at *
 go_enter func253,ntmps253
 go_wp2_with first | (go_at_call 254;((with_reducible refine(QK q 5 1 ad (by unfold May;decide) _).mono ?_);rintro e w1 ⟨rfl,H,rfl⟩;rw[ai.o];have al:=κ ((I.o.on (ql.drewN _ H)).put8 7 (μ (bit q 32)));have O:=κ (qo (qr am.o H) ⟨d,7,ϋ⟩ (μ (bit q 32)) (by show G≠d;omega));have ar:=qm (I.o.on (ql.drewN w H)).b8 7 (v:= μ ύ) rfl;have aB:=yw (I.o.on (ql.drewN w H)).b8 7;have aw:=ao.o;have au:=β0 O.o)) | (go_at_call 254;((with_reducible refine(QK q 6 2 ad (by unfold May;decide) _).mono ?_);rintro e w2 ⟨rfl,ae,rfl⟩;rw[aj.o];have an:=κ (al.o.on (ql.drewN _ ae));have ak:=κ (qr O.o ae)))
 go_ret;exact⟨rfl,an.o,ak.o⟩
def FW {O:World} {H I J:Nat} {q:Int} (h:PrQ O w R hi Br H I J d s t cs q) (af:0<=q/\q<=255):
  Calls prog 255 #[γ d] w λe w'=>e= .returned (ι (q%32))/\PrQ O w' R hi Br H I J d s t cs q:=by
 obtain⟨h,G⟩:=h;obtain⟨ad,ae,M⟩:=Hg af;have ag:U64 q:=by unfold U64;omega
 have U:=κ M;have ah:=β0 G;have aa:=κ h;have ac:=κ G;have ai:q%32<=31:=by omega
 have aj:0<=q%32:=by omega
 clear h G ad ae M;generalize q%32=q5 at *
 go_enter func255,ntmps255
 go_wp2_with (go_at_call 254;((with_reducible refine(QK q 0 5 ag (by unfold May;decide) _).mono ?_);rintro e w1 ⟨rfl,N,rfl⟩;rw[U.o];have ab:=κ (aa.o.on (ql.drewN _ N));have Y:=κ (qr ac.o N)))
 go_ret;exact⟨rfl,ab.o,Y.o⟩
def Lo {N:World} {H:Nat} {f:Int} (h:PrS N w R hi Br d G H s t (dC f 0 ύ 0 0 ύ 0)) (U:0<=t/\t<=255):
  Calls prog 250 #[υ 128,.func (.func 251) #[] #[γ d,γ H],γ G] w λe w'=>e= .returned (ι (gk t s).1.1)/\PrS N w' R hi Br d G H (gk t s).2 t (dC f 0 (gk t s).1.2 0 0 ύ 0):=by
 have Y:=β0 h.b7;have I:=κ h;have M:=(Zw U).1;clear h;cases hb:bit t 128 with
 | false=>
  rw[hb,ώ η] at M;have e:gk t s=((-1,ύ),s):=by unfold gk;rw[hb,ώ η]
  rw[e];clear e hb
  go_enter func250,ntmps250
  go_wp2;go_ret;exact⟨rfl,I.o⟩
 | true=>
  rw[hb,ϐ rfl] at M;have e:gk t s=((CQ s,CO s),CS s):=by unfold gk CQ CS CO;rw[hb,ϐ rfl];by_cases hn:nB s<128<;>simp[hn]
  have E:=κ e;clear e hb
  go_enter func250,ntmps250
  go_wp2_with (go_at_call 251;((with_reducible refine(FK I.o).mono ?_);rintro e w1 ⟨rfl,J⟩;have O:=κ J;clear J))
  go_ret;rw[E.o];exact⟨rfl,O.o⟩
def Lp {N:World} {H:Nat} (h:PrS N w R hi Br d G H s t cs) (U:0<=t/\t<=255):
  Calls prog 250 #[υ 64,.func (.func 252) #[] #[γ d],γ G] w λe w'=>e= .returned (ι (Jl t s).1)/\PrS N w' R hi Br d G H (Jl t s).2 t cs:=by
 have Y:=β0 h.b7;have I:=κ h;have M:=(Zw U).2.1;clear h;cases hb:bit t 64 with
 | false=>
  rw[hb,ώ η] at M;have e:Jl t s=(-1,s):=by unfold Jl;rw[hb,ώ η]
  rw[e];clear e hb
  go_enter func250,ntmps250
  go_wp2;go_ret;exact⟨rfl,I.o⟩
 | true=>
  rw[hb,ϐ rfl] at M;have e:Jl t s=(nB s,tkS s 1):=by unfold Jl;rw[hb,ϐ rfl]
  have E:=κ e;clear e hb
  go_enter func250,ntmps250
  go_wp2_with (go_at_call 252;((with_reducible refine(FZ I.o).mono ?_);rintro e w1 ⟨rfl,J⟩;have O:=κ J;clear J))
  go_ret;rw[E.o];exact⟨rfl,O.o⟩
def Gg {aa:World} {I H:Nat} {q:Int} {f Y M:Int} {ab:Bool} (h:PrQ aa w R hi Br I H G d s t (dC f Y ab M 0 ύ 0) q) (af:0<=t/\t<=255) (U:0<=q/\q<=255) (ae:G<d):
  Calls prog 250 #[υ 32,.func (.func 253) #[] #[γ d,γ G],γ H] w λe w'=>e= .returned (ι (if bit t 32 then q/64 else -1))/\PrQ aa w' R hi Br I H G d s t (dC f Y ab M 0 (bit t 32&&bit q 32) 0) q:=by
 have ag:=β0 h.1.b7;have J:=κ h;have O:=(Zw af).2.2.1;have ad:=κ U;clear h U;cases hb:bit t 32 with
 | false=>
  rw[hb,ώ η] at O;rw[ώ η,K3];clear hb
  go_enter func250,ntmps250
  go_wp2;go_ret;exact⟨rfl,J.o⟩
 | true=>
  rw[hb,ϐ rfl] at O;rw[ϐ rfl,I8];clear hb
  go_enter func250,ntmps250
  go_wp2_with (go_at_call 253;((with_reducible refine(Cx J.o ad.o ae).mono ?_);rintro e w1 ⟨rfl,N⟩;have ac:=κ N;clear N))
  go_ret;exact⟨rfl,ac.o⟩
def Ao {U:World} {H I:Nat} {q:Int} (h:PrQ U w R hi Br H G I d s t cs q) (ab:0<=t/\t<=255) (O:0<=q/\q<=255):
  Calls prog 250 #[υ 16,.func (.func 255) #[] #[γ d],γ G] w λe w'=>e= .returned (ι (if bit t 16 then q%32 else -1))/\PrQ U w' R hi Br H G I d s t cs q:=by
 have ac:=β0 h.1.b7;have J:=κ h;have N:=(Zw ab).2.2.2.1;have aa:=κ O;clear h O;cases hb:bit t 16 with
 | false=>
  rw[hb,ώ η] at N;rw[ώ η];clear hb
  go_enter func250,ntmps250
  go_wp2;go_ret;exact⟨rfl,J.o⟩
 | true=>
  rw[hb,ϐ rfl] at N;rw[ϐ rfl];clear hb
  go_enter func250,ntmps250
  go_wp2_with (go_at_call 255;((with_reducible refine(FW J.o aa.o).mono ?_);rintro e w1 ⟨rfl,M⟩;have Y:=κ M;clear M))
  go_ret;exact⟨rfl,Y.o⟩
def PrS.begin {w2:World} (J:Z= #[μ ύ,ύ,υ 0,ι 0,ύ,ι 0,ι 0,ύ,ι 0]) (H:(w.alloc (.cells Z 366)).heap.size<=R)
  (r:qu w2 R b 0 (λg=>(w.alloc (.cells Z 366)).heap.size<=g/\g<w2.heap.size)) (m:ql (w.alloc (.cells Z 366)) w2):
  qu w2 R b 0 (λg=>g<w2.heap.size)/\ql w w2/\w2.heap[w.heap.size]? =ϊ (.cells Z 366 (0,0))/\w.heap.size<R/\R<w2.heap.size:=by
 have G:R<w2.heap.size:=by obtain⟨v,d,_⟩:=r.blk;exact qn d
 have I:(w.alloc (.cells Z 366)).heap.size=w.heap.size+1:=by simp
 exact⟨r.mono λg h=>h.2,W4.trans m,qq m (qj w _),τ,G⟩
structure PrP (w0 w:World) (R hi Br B5 B7:Nat) (s:RdS) (t:Int):Prop where
 rd:qu w R s.1 s.2 (λg=>g<hi)
 more:ql w0 w
 br:w.heap[Br]? =ϊ (.cells #[.bool ύ,.bool ύ,.int .u8 0,.int .i64 0,.bool ύ,.int .i64 0,.int .i64 0,.bool ύ,.int .i64 0] 366 (0,0))
 b5:w.heap[B5]? =ϊ (.cells #[.pointer (ϊ ⟨R,0,ϋ⟩)] 156 (0,0))
 b7:w.heap[B7]? =ϊ (.cells #[.int .u8 t] 5 (0,0))
 n0:w0.heap.size<=Br
 nR:Br<R
 n1:R<hi
 n5:hi<=B5
 n7:B5<B7
def PrP.step (h:PrP H w R hi Br d G s t) (r:qu w' R s'.1 s'.2 (λg=>g<hi)) (a:jt (λb=>b=R) w w'):PrP H w' R hi Br d G s' t:=by
 have:=h.n0;have:=h.nR;have:=h.n1;have:=h.n5;have:=h.n7;exact⟨r,jt.to_more h.more a (λk I=>by omega),a.blk h.br τ,a.blk h.b5 τ,a.blk h.b7 τ,h.n0,h.nR,h.n1,h.n5,h.n7⟩
def PrP.put7 (h:PrP H w R hi Br G d s t) (t':Int):PrP H (w.setCell ⟨d,0,ϋ⟩ (υ t')) R hi Br G d s t':=by
 have:=h.n0;have:=h.nR;have:=h.n1;have:=h.n5;have:=h.n7;have a:jt (λb=>b=d) w (w.setCell ⟨d,0,ϋ⟩ (υ t')):=(jt.refl (λb=>b=d) w).set (p:=⟨d,0,ϋ⟩) rfl _;exact⟨h.rd.off a τ (λg I e=>by omega),h.more.st (p:=⟨d,0,ϋ⟩) (by show _<=d;omega) _,a.blk h.br τ,a.blk h.b5 τ,qB (qp h.b7 0 _) rfl,h.n0,h.nR,h.n1,h.n5,h.n7⟩
def PrP.box (h:PrP H w R hi Br d G s t) (cs:Array Value):PrS H (w.alloc (.cells cs 366)) R hi Br d G w.heap.size s t cs:=
 ⟨h.rd.more W4,h.more.al _,qs h.br _,qs h.b5 _,qs h.b7 _,qj w _,h.n0,h.nR,h.n1,h.n5,h.n7,qn h.b7⟩
def PrP.make {w2 d:World} (N:qu w2 R b 0 (λg=>g<w2.heap.size)) (m:ql w w2) (H:w2.heap[Br]? =ϊ (.cells #[μ ύ,ύ,υ 0,ι 0,ύ,ι 0,ι 0,ύ,ι 0] 366 (0,0))) (I:w.heap.size<=Br) (J:Br<R) (n2:R<w2.heap.size)
  (r:qu d R s'.1 s'.2 (λg=>g<w2.heap.size)) (a:jt (λb=>b=R) (w2.alloc (.cells #[γ R] 156)) d):
  PrP w (d.alloc (.cells #[υ 0] 5)) R w2.heap.size Br w2.heap.size d.heap.size s' 0:=by
 have G:d.heap[w2.heap.size]? =_:=a.blk (qj w2 _) τ;refine⟨r.more W4,(jt.to_more (m.al _) a (λk M=> ?_)).al _,qs (a.blk (qs H _) τ) _,qs G _,qj _ _,I,J,n2,ϕ _,qn G⟩;omega
def PrQ.mk {J:World} {H I:Nat} {q:Int} (h:PrS J w R hi Br G H I s t cs) (k:w.heap[d]? =ϊ (.cells #[ψ q] 231 (0,0))):PrQ J w R hi Br G H I d s t cs q:=⟨h,k⟩
def ql.st9 {G:World} (m:ql G w) (B:Nat) (d:G.heap.size<=B) (v0 H I v3 v4 v5 J M N:Value):
  ql G (((((((((w.setCell ⟨B,0,ϋ⟩ v0).setCell ⟨B,1,ϋ⟩ H).setCell ⟨B,2,ϋ⟩ I).setCell ⟨B,3,ϋ⟩ v3).setCell ⟨B,4,ϋ⟩ v4).setCell ⟨B,5,ϋ⟩ v5).setCell ⟨B,6,ϋ⟩ J).setCell ⟨B,7,ϋ⟩ M).setCell ⟨B,8,ϋ⟩ N):=
 ((((((((m.st (p:=⟨B,0,ϋ⟩) d v0).st (p:=⟨B,1,ϋ⟩) d H).st (p:=⟨B,2,ϋ⟩) d I).st (p:=⟨B,3,ϋ⟩) d v3).st (p:=⟨B,4,ϋ⟩) d v4).st (p:=⟨B,5,ϋ⟩) d v5).st (p:=⟨B,6,ϋ⟩) d J).st (p:=⟨B,7,ϋ⟩) d M).st (p:=⟨B,8,ϋ⟩) d N
def PrS.put10 {J:World} {H I:Nat} (h:PrS J w R hi Br H I G s t cs) (M:G<d):PrS J (w.setCell ⟨d,0,ϋ⟩ v) R hi Br H I G s t cs:=by
 have:=h.n0;have:=h.nR;have:=h.n1;have:=h.n5;have:=h.n7;have:=h.n8;have a:jt (λb=>b=d) w (w.setCell ⟨d,0,ϋ⟩ v):=(jt.refl (λb=>b=d) w).set (p:=⟨d,0,ϋ⟩) rfl _;exact⟨h.rd.off a τ (λg N e=>by omega),h.more.st (p:=⟨d,0,ϋ⟩) (by show _<=d;omega) _,a.blk h.br τ,a.blk h.b5 τ,a.blk h.b7 τ,a.blk h.b8 τ,h.n0,h.nR,h.n1,h.n5,h.n7,h.n8⟩
def kz (v:Value) (b:List Int) (w:World) (bD:SlI .u8 w v b) (aP:Byt b) (bT:b.length<=1000000):
  Calls prog 195 #[v] w λe w'=>e= .returned (.tuple #[θ #[μ (qW b).1.lo,μ (qW b).1.st,υ (qW b).1.pt,ι (qW b).1.pic,μ (qW b).1.wd,ι (qW b).1.bs,ι (qW b).1.tr,μ (qW b).1.sy,ι (qW b).1.ky],ι (qW b).2.1,ι (qW b).2.2])/\ql w w':=by
 have bg:=κ (bD.keep (ql.alloc w (.cells #[μ ύ,ύ,υ 0,ι 0,ύ,ι 0,ι 0,ύ,ι 0] 366)));have aq:0<=nB (b,0)/\nB (b,0)<=255:=Zt (s:=(b,0)) aP;obtain⟨ct,cn,rfl,aQ⟩:=bD;clear aQ;have bS:=(JW aq).1;have co:=(JW aq).2.2.1;have cp:=(JW aq).2.2.2;have cq:=(Zw aq).2.2.2.2.1;have ah:num (tkB b 1)=nB (b,0):=rfl;have al:=κ ah;clear ah;generalize bq:nB (b,0)=f at *;have an:=κ bq;clear bq
 go_enter func195,ntmps195
 go_upto_if 18 with (first | (go_at_call 51;(go_call NV _ b _ bg.o aP bT as e w2 ⟨R,rfl,bn,bv,bt⟩;obtain⟨bA,bz,bh,n1,n2⟩:=PrS.begin rfl bn bv bt;have ax:=κ bA;have bI:=κ bz;have aW:=κ bh;clear bv bt bA bz bh bn;have aR:=β0 (qj w2 (.cells #[γ R] 156)))) | (go_at_call 52;(go_call jT (ax.o.more W4) as e bZ ⟨rfl,bB,a3⟩;rw[al.o];have ab:=κ (PrP.make ax.o bI.o aW.o (ϕ _) n1 n2 (s':=tkS (b,0) 1) bB a3);clear bB a3)))
 generalize w2.heap.size=hi at *;generalize bZ.heap.size=B7 at *;have bW:=β0 ab.o.b5;have aU:=β0 ab.o.b7;have bi:0<=(zd (b,0)).2.1/\(zd (b,0)).2.1<=255:=by
  unfold zd;split
  ·exact Zt (s:=tkS (b,0) 1) (aP.drop _)
  ·exact⟨η,η⟩
 have aa:=κ bi;clear bi
 go_cut [] from 18 (λaS=>PrP w aS R hi w.heap.size hi B7 (zd (b,0)).2.2 (zd (b,0)).2.1)
 case first=>
  cases hbt:bit f 128 with
  | false=>
   have e:zd (b,0)=(f,0,tkS (b,0) 1):=by unfold zd;rw[an.o,hbt,ώ η]
   have I:=κ e;clear e;go_wp2;go_meet;rw[I.o];exact ab.o
  | true=>
   have e:zd (b,0)=(f,nB (tkS (b,0) 1),tkS (tkS (b,0) 1) 1):=by unfold zd;rw[an.o,hbt,ϐ rfl]
   have I:=κ e;clear e
   go_wp2_with (go_at_call 52;(go_call jT ab.o.rd as e w4 ⟨rfl,ar,a4⟩;have bG:=κ ((ab.o.step (s':=tkS (tkS (b,0) 1) 1) ar a4).put7 (nB (tkS (b,0) 1)));have bE:=yw (ab.o.step (s':=tkS (tkS (b,0) 1) 1) ar a4).b7 0;have cx:=qm (ab.o.step (s':=tkS (tkS (b,0) 1) 1) ar a4).b7 0 (v:= υ 0) rfl;clear ar a4))
   go_meet;rw[I.o];exact bG.o
 case rest=>
  have bp:(zd (b,0)).1=f:=by rw[<-an.o];unfold zd;split<;>rfl
  have Y:qW b=DE b.length (Zs (zd (b,0)).1 (zd (b,0)).2.1 (zd (b,0)).2.2):=rfl;rw[bp] at Y;have aX:=κ hcut;have bc:=κ Y;clear hcut Y bp ab ax aW aR bW aU al an bg;generalize (zd (b,0)).2.1=t at *;generalize (zd (b,0)).2.2=s at *;obtain⟨t0,t1⟩:=aa.o;have ad:=(Zw aa.o).2.2.2.2.2;have aZ:=κ ad;clear ad bS;have be:Hid (PrS w (wc.alloc (.cells #[μ (bit f 32),(bit f 16),υ (f%8),ι 0,ύ,ι 0,ι 0,ύ,ι 0] 366)) R hi w.heap.size hi B7 wc.heap.size s t (dC f 0 ύ 0 0 ύ 0)):=κ (aX.o.box _);generalize bl:gk t s=P at *;generalize bm:Jl t P.2=Q at *;generalize bj:QP t Q.2=Bo at *;have ba:=κ bl;have bb:=κ bm;have am:=κ bj;clear bl bm bj;obtain⟨⟨pic,wd⟩,s1⟩:=P;obtain⟨bs,s2⟩:=Q;obtain⟨q,H⟩:=Bo
  have bH:Hid (Byt s2.1->0<=q/\q<=255):=κ (λbU=>by
   have e:=am.o;unfold QP at e;split at e
   ·cases e;exact Zt bU
   ·cases e;exact⟨ζ,ζ⟩)
  go_upto_if 41 with (first | (go_at_call 250;((with_reducible refine(Lo be.o aa.o).mono ?_);rintro e w5 ⟨rfl,ai⟩;rw[ba.o] at ai ⊢;have bf:Hid (PrS w (w5.setCell ⟨wc.heap.size,3,ϋ⟩ (ι pic)) R hi w.heap.size hi B7 wc.heap.size s1 t (dC f pic wd 0 0 ύ 0)):=κ (ai.put8 3 (ι pic));have ca:=β3 ai.b8;have z3:=yw ai.b8 3;clear ai)) | (go_at_call 250;((with_reducible refine(Lp bf.o aa.o).mono ?_);rintro e w6 ⟨rfl,aj⟩;rw[bb.o] at aj ⊢;have ao:Hid (PrS w (w6.setCell ⟨wc.heap.size,5,ϋ⟩ (ι bs)) R hi w.heap.size hi B7 wc.heap.size s2 t (dC f pic wd bs 0 ύ 0)):=κ (aj.put8 5 (ι bs));have cb:=β5 aj.b8;have z5:=yw aj.b8 5;have G:=κ (ao.o.on (ql.alloc _ (.cells #[ψ 0] 231)));have aU:=β0 G.o.b7;clear aj ca z3)))
  have ac:=κ (qj (w6.setCell ⟨wc.heap.size,5,ϋ⟩ (ι bs)) (.cells #[ψ 0] 231));have bu:=bH.o ao.o.rd.byt;have ae:=κ bu;have ap:wc.heap.size<(w6.setCell ⟨wc.heap.size,5,ϋ⟩ (ι bs)).heap.size:=qn ao.o.b8;clear bu;generalize (w6.setCell ⟨wc.heap.size,5,ϋ⟩ (ι bs)).alloc (.cells #[ψ 0] 231)=W7 at *;have bx:(w6.setCell ⟨wc.heap.size,5,ϋ⟩ (ι bs)).heap.size=w6.heap.size:=by simp
  rw[bx] at ac ap;generalize w6.heap.size=N10 at *;generalize wc.heap.size=B8 at *;clear be bf ao cb z5 bx aX;have aR:=β0 G.o.b5
  go_cut [] from 41 (λaS=>PrQ w aS R hi w.heap.size hi B7 B8 N10 H t (dC f pic wd bs 0 ύ 0) q)
  case first=>
   cases hbt:(bit t 32||bit t 16) with
   | false=>
    have e:=am.o;unfold QP at e;rw[hbt,ώ η] at e;have ad:=aZ.o;rw[hbt] at ad;have I:Hid (0=q/\s2=H):=κ (by cases e;exact⟨rfl,rfl⟩);clear e hbt;go_wp2;go_meet;rw[<-I.o.1,<-I.o.2];exact⟨G.o,ac.o⟩
   | true=>
    have e:=am.o;unfold QP at e;rw[hbt,ϐ rfl] at e;have ad:=aZ.o;rw[hbt] at ad;have I:Hid (nB s2=q/\tkS s2 1=H):=κ (by cases e;exact⟨rfl,rfl⟩);have ah:num (tkB s2.1 1)=q:=I.o.1;have al:=κ ah;obtain⟨cu,cv⟩:=ae.o;clear e hbt ah
    go_wp2_with (go_at_call 52;(go_call jT G.o.rd as e w8 ⟨rfl,bC,U⟩;rw[al.o];have af:=κ (G.o.step (s':=tkS s2 1) bC U);have bF:=κ (U.blk ac.o (by have:=G.o.n1;have:=G.o.n5;have:=G.o.n7;have:=G.o.n8;omega));have cy:=yw (U.blk ac.o (by have:=G.o.n1;have:=G.o.n5;have:=G.o.n7;have:=G.o.n8;omega)) 0;have cw:=β0 (U.blk ac.o (by have:=G.o.n1;have:=G.o.n5;have:=G.o.n7;have:=G.o.n8;omega));clear bC U))
    go_meet;rw[<-I.o.2];exact⟨af.o.put10 ap,qB (qp bF.o 0 _) rfl⟩
  case rest=>
   have af:=κ hcut;clear hcut aR aU ac G;have bw:Zs f t s=(mkD f t (pic,wd) bs q,H):=by unfold Zs;rw[ba.o];simp only[bb.o,am.o]
   have bd:=κ bw;clear bw;obtain⟨J,bo⟩: ∃J,J=(if bit t 32 then q/64 else -1):=⟨_,rfl⟩;obtain⟨O,bk⟩: ∃O,O=(if bit t 16 then q%32 else -1):=⟨_,rfl⟩;have ay:=κ bo;have aw:=κ bk;clear bo bk;obtain⟨av,ak⟩:=ν ((if ¬H.2=0 then H.2 else if 0<H.1.length then 4 else 0));have aY:=κ ak;have aQ:=af.o.1.rd.small;by_cases he:H.2=3
   ·have bV:av=3:=by rw[<-ak,he];rfl
    have Y:qW b=(ds0,0,3):=by rw[bc.o,bd.o];unfold DE;rw[ϐ he]
    subst bV;have I:=κ Y;clear he ak Y aQ
    go_wp2_with first | (go_at_call 250;((with_reducible refine(Gg af.o aa.o ae.o ap).mono ?_);rintro e w9 ⟨rfl,N⟩;rw[<-ay.o];obtain⟨N,ag⟩:=N;have az:Hid (PrS w (w9.setCell ⟨B8,6,ϋ⟩ (ι J)) R hi w.heap.size hi B7 B8 H t (dC f pic wd bs J (bit t 32&&bit q 32) 0)):=κ (N.put8 6 (ι J));have au:=κ (qo ag ⟨B8,6,ϋ⟩ (ι J) (by show N10≠B8;omega));have aT:=β6 N.b8;have aV:=yw N.b8 6;clear N ag)) | (go_at_call 250;((with_reducible refine(Ao (PrQ.mk az.o au.o) aa.o ae.o).mono ?_);rintro e w10 ⟨rfl,M⟩;rw[<-aw.o];obtain⟨M,aF⟩:=M;have d:Hid (PrS w (w10.setCell ⟨B8,8,ϋ⟩ (ι O)) R hi w.heap.size hi B7 B8 H t (dC f pic wd bs J (bit t 32&&bit q 32) O)):=κ (M.put8 8 (ι O));have cc:=β8 M.b8;have bE:=yw M.b8 8;have cd:=β0 d.o.b5;clear M aF aT aV)) | (go_at_call 57;(go_call zn d.o.rd as e bX ⟨rfl,rfl⟩)) | (go_at_call 59;(go_call yT d.o.rd as e bY ⟨rfl,rfl⟩;rw[aY.o];have aG:=β0 d.o.br;have ce:=yw d.o.br 0;have aH:=β1 d.o.br;have cf:=yw d.o.br 1;have aI:=β2 d.o.br;have cg:=yw d.o.br 2;have aJ:=β3 d.o.br;have ch:=yw d.o.br 3;have aK:=β4 d.o.br;have ci:=yw d.o.br 4;have aL:=β5 d.o.br;have cj:=yw d.o.br 5;have aM:=β6 d.o.br;have ck:=yw d.o.br 6;have aN:=β7 d.o.br;have cl:=yw d.o.br 7;have aO:=β8 d.o.br;have cm:=yw d.o.br 8;have bJ:=β0 d.o.b8;have bK:=β1 d.o.b8;have bL:=β2 d.o.b8;have bM:=β3 d.o.b8;have bN:=β4 d.o.b8;have bO:=β5 d.o.b8;have bP:=β6 d.o.b8;have bQ:=β7 d.o.b8;have bR:=β8 d.o.b8))
    (refine bodyPost_ret (v:= .tuple #[θ #[μ ύ,ύ,υ 0,ι 0,ύ,ι 0,ι 0,ύ,ι 0],ι 0,ι 3]) ?rr1 rfl ?_;(case rr1=>(simp[results,results195,go_sem,aG,aH,aI,aJ,aK,aL,aM,aN,aO])))
    have aA:=κ (λa0 aB aC a3 a4 a5 aD aE U=>ql.st9 d.o.more w.heap.size (ϕ _) a0 aB aC a3 a4 a5 aD aE U);refine⟨by rw[I.o];rfl, ?_⟩;exact aA.o _ _ _ _ _ _ _ _ _
   ·have cr:(av==3)=ύ:=by
     have: ¬av=3:=by
      rw[<-ak];split
      ·exact he
      ·split<;>decide
     simpa using this
    have Y:qW b=(mkD f t (pic,wd) bs q,(b.length:Int)-H.1.length,0):=by rw[bc.o,bd.o];unfold DE;rw[ώ he]
    have I:=κ Y;clear he ak Y
    go_wp2_with first | (go_at_call 250;((with_reducible refine(Gg af.o aa.o ae.o ap).mono ?_);rintro e w9 ⟨rfl,N⟩;rw[<-ay.o];obtain⟨N,ag⟩:=N;have az:Hid (PrS w (w9.setCell ⟨B8,6,ϋ⟩ (ι J)) R hi w.heap.size hi B7 B8 H t (dC f pic wd bs J (bit t 32&&bit q 32) 0)):=κ (N.put8 6 (ι J));have au:=κ (qo ag ⟨B8,6,ϋ⟩ (ι J) (by show N10≠B8;omega));have aT:=β6 N.b8;have aV:=yw N.b8 6;clear N ag)) | (go_at_call 250;((with_reducible refine(Ao (PrQ.mk az.o au.o) aa.o ae.o).mono ?_);rintro e w10 ⟨rfl,M⟩;rw[<-aw.o];obtain⟨M,aF⟩:=M;have d:Hid (PrS w (w10.setCell ⟨B8,8,ϋ⟩ (ι O)) R hi w.heap.size hi B7 B8 H t (dC f pic wd bs J (bit t 32&&bit q 32) O)):=κ (M.put8 8 (ι O));have cc:=β8 M.b8;have bE:=yw M.b8 8;have cd:=β0 d.o.b5;clear M aF aT aV)) | (go_at_call 57;(go_call zn d.o.rd as e bX ⟨rfl,rfl⟩)) | (go_at_call 59;(go_call yT d.o.rd as e bY ⟨rfl,rfl⟩;rw[aY.o];have aG:=β0 d.o.br;have ce:=yw d.o.br 0;have aH:=β1 d.o.br;have cf:=yw d.o.br 1;have aI:=β2 d.o.br;have cg:=yw d.o.br 2;have aJ:=β3 d.o.br;have ch:=yw d.o.br 3;have aK:=β4 d.o.br;have ci:=yw d.o.br 4;have aL:=β5 d.o.br;have cj:=yw d.o.br 5;have aM:=β6 d.o.br;have ck:=yw d.o.br 6;have aN:=β7 d.o.br;have cl:=yw d.o.br 7;have aO:=β8 d.o.br;have cm:=yw d.o.br 8;have bJ:=β0 d.o.b8;have bK:=β1 d.o.b8;have bL:=β2 d.o.b8;have bM:=β3 d.o.b8;have bN:=β4 d.o.b8;have bO:=β5 d.o.b8;have bP:=β6 d.o.b8;have bQ:=β7 d.o.b8;have bR:=β8 d.o.b8))
    (refine bodyPost_ret (v:= .tuple #[θ #[μ (bit f 32),(bit f 16),υ (f%8),ι pic,wd,ι bs,ι J,(bit t 32&&bit q 32),ι O],ι ((b.length:Int)-H.1.length),ι 0]) ?rr2 rfl ?_;(case rr2=>(simp[results,results195,go_sem,aG,aH,aI,aJ,aK,aL,aM,aN,aO])))
    have aA:=κ (λa0 aB aC a3 a4 a5 aD aE U=>ql.st9 d.o.more w.heap.size (ϕ _) a0 aB aC a3 a4 a5 aD aE U);refine⟨by rw[I.o,ay.o,aw.o];rfl, ?_⟩;exact aA.o _ _ _ _ _ _ _ _ _
def PH (s:RdS):(zd s).2.2.1.length<=s.1.length:=by
 have d: ∀s:RdS,(tkS s 1).1.length<=s.1.length:=λs=>by unfold tkS tkL;rw[ϣ];omega
 unfold zd;split
 ·exact Ϙ (d _) (d _)
 ·exact d _
def Es (b:List Int):0<=(qW b).2.1/\(qW b).2.1<=b.length:=by
 have d:=PH (b,0);have G:=GI (zd (b,0)).1 (zd (b,0)).2.1 (zd (b,0)).2.2;unfold qW DE;split
 ·exact⟨P4 _,η⟩
 ·simp only at d ⊢;omega
def Jg (v:Value) (b:List Int) (w:World) (aq:SlI .u8 w v b) (M:Byt b) (ab:b.length<=1000000):
  Calls prog 134 #[v] w λe w'=>e= .returned (μ (zJ b))/\ql w w':=by
 have J:=κ aq;have ap:=Es b;have G:zJ b=(decide ((qW b).2.2=0)&&(qW b).1.st&&decide ((qW b).1.pt=0)&&decide ((qW b).2.1<b.length)&&decide (b.getD (qW b).2.1.toNat 0%2=0)):=rfl;obtain⟨aE,az,rfl,_,N,_⟩:=aq;obtain⟨ar,ak⟩:=ν ((qW b).1.st);obtain⟨an,aj⟩:=ν ((qW b).1.pt);obtain⟨ae,af⟩:=ν ((qW b).2.1);obtain⟨am,ai⟩:=ν ((qW b).2.2);rw[af] at ap;rw[ak,aj,af,ai] at G;have aa:=κ ak;have Y:=κ aj;have U:=κ af;have O:=κ ai;obtain⟨ac,ad⟩:=ap;clear ak aj af ai;by_cases h1:am=0
 ·cases ar with
  | false=>
   have H:Hid (zJ b=ύ):=κ (by rw[G];simp);subst h1;clear G N ac ad
   go_enter func134,ntmps134
   go_wp2_with (go_at_call 195;(go_call kz _ b _ J.o M ab as e w2 ⟨rfl,d⟩;have I:=κ d;have ag:=κ ((J.o.keep d).keep (ql.alloc _ (.cells #[μ (qW b).1.lo,μ (qW b).1.st,υ (qW b).1.pt,ι (qW b).1.pic,μ (qW b).1.wd,ι (qW b).1.bs,ι (qW b).1.tr,μ (qW b).1.sy,ι (qW b).1.ky] 366)));clear d;rw[aa.o,Y.o,U.o,O.o]))
   go_ret;exact⟨by rw[H.o];try rfl,I.o.al _⟩
  | true=>
   by_cases h2:an=0
   ·by_cases h3:ae<b.length
    ·obtain⟨k,rfl⟩: ∃k:Nat,ae=k:=⟨ae.toNat,τ⟩;have ax:k<b.length:=by omega
     obtain⟨ah,ay,rfl,ao,av⟩:=N k ax;have au:=M k;have H:Hid (zJ b=decide (b.getD k 0%2=0)):=κ (by rw[G,ϭ h1,ϭ h2,ϭ h3];simp);have aw: ¬(b.length:Int)<=(k:Int):=by omega
     subst h1 h2;clear G N ac ad;generalize b.getD k 0=x at *;obtain⟨aF,aG⟩:=au
     go_enter func134,ntmps134
     go_wp2_with (go_at_call 195;(go_call kz _ b _ J.o M ab as e w2 ⟨rfl,d⟩;have I:=κ d;rw[aa.o,Y.o,U.o,O.o];have aD:w2.cell? ⟨ah,ay+k,ϋ⟩=ϊ (υ x):=(by rw[d.cells ah _ ao];exact av);have aC:ah<w2.heap.size:=ϗ ao d.size;clear d))
     go_ret;exact⟨by rw[H.o];first | rfl | (congr 2;rw[E0];simp),I.o.al _⟩
    ·have H:Hid (zJ b=ύ):=κ (by rw[G,ϫ h3];simp);have aw:(b.length:Int)<=ae:=by omega
     subst h1 h2;clear G N ac ad
     go_enter func134,ntmps134
     go_wp2_with (go_at_call 195;(go_call kz _ b _ J.o M ab as e w2 ⟨rfl,d⟩;have I:=κ d;have ag:=κ ((J.o.keep d).keep (ql.alloc _ (.cells #[μ (qW b).1.lo,μ (qW b).1.st,υ (qW b).1.pt,ι (qW b).1.pic,μ (qW b).1.wd,ι (qW b).1.bs,ι (qW b).1.tr,μ (qW b).1.sy,ι (qW b).1.ky] 366)));clear d;rw[aa.o,Y.o,U.o,O.o]))
     go_ret;exact⟨by rw[H.o];try rfl,I.o.al _⟩
   ·have H:Hid (zJ b=ύ):=κ (by rw[G,ϫ h2];simp);have aB:(an != 0)=ό:=by simpa using h2
    subst h1;clear G N ac ad h2
    go_enter func134,ntmps134
    go_wp2_with (go_at_call 195;(go_call kz _ b _ J.o M ab as e w2 ⟨rfl,d⟩;have I:=κ d;have ag:=κ ((J.o.keep d).keep (ql.alloc _ (.cells #[μ (qW b).1.lo,μ (qW b).1.st,υ (qW b).1.pt,ι (qW b).1.pic,μ (qW b).1.wd,ι (qW b).1.bs,ι (qW b).1.tr,μ (qW b).1.sy,ι (qW b).1.ky] 366)));clear d;rw[aa.o,Y.o,U.o,O.o]))
    go_ret;exact⟨by rw[H.o];try rfl,I.o.al _⟩
 ·have H:Hid (zJ b=ύ):=κ (by rw[G,ϫ h1];simp);have aA:(am != 0)=ό:=by simpa using h1
  clear G N ac ad h1
  go_enter func134,ntmps134
  go_wp2_with (go_at_call 195;(go_call kz _ b _ J.o M ab as e w2 ⟨rfl,d⟩;have I:=κ d;have ag:=κ ((J.o.keep d).keep (ql.alloc _ (.cells #[μ (qW b).1.lo,μ (qW b).1.st,υ (qW b).1.pt,ι (qW b).1.pic,μ (qW b).1.wd,ι (qW b).1.bs,ι (qW b).1.tr,μ (qW b).1.sy,ι (qW b).1.ky] 366)));clear d;rw[aa.o,Y.o,U.o,O.o]))
  go_ret;exact⟨by rw[H.o];try rfl,I.o.al _⟩
def IY: ∀m:Fin 256,bits .and .u8 (m.val:Int) 127=(m.val:Int)%128/\bits .and .u8 (m.val:Int) 15=(m.val:Int)%16:=ϟ ξ
def Gd {x:Int} (h:0<=x/\x<=255):bits .and .u8 x 127=x%128/\bits .and .u8 x 15=x%16:=by
 obtain⟨m,rfl⟩:=Γ h.1;exact IY ⟨m,τ⟩
structure HdS (w0 w:World) (R hi Br Bd:Nat) (s:RdS) (q:Pk) (vs ve vp:Value):Prop where
 rd:qu w R s.1 s.2 (λg=>g<hi)
 more:ql w0 w
 br:w.heap[Br]? =ϊ (.cells #[.bool ύ,.int .u8 0,.int .u16 0,.int .u32 0,.int .u32 0,.slice ϋ 0 0,.bool ύ,.int .u16 0,.slice ϋ 0 0,.slice ϋ 0 0] 63 (0,0))
 bd:w.heap[Bd]? =ϊ (.cells #[.bool q.mr,.int .u8 q.ty,.int .u16 q.sq,.int .u32 q.st,.int .u32 q.sc,vs,.bool q.has,.int .u16 q.pr,ve,vp] 63 (0,0))
 rs:w.ownsRow (Bd+1) 38 1 vs q.ss.length (q.ss.map (Value.int .u32))
 re:w.ownsRow (Bd+1) 5 1 ve q.ex.length (q.ex.map (Value.int .u8))
 rp:w.ownsRow (Bd+1) 5 1 vp q.pl.length (q.pl.map (Value.int .u8))
 n0:w0.heap.size<=Br
 nR:Br<R
 n1:R<hi
 n5:hi<=Bd
def HdS.step {Bd:Nat} {H G vp:Value} (h:HdS I w R hi Br Bd s q H G vp) (r:qu w' R s'.1 s'.2 (λg=>g<hi)) (a:jt (λb=>b=R) w w'):HdS I w' R hi Br Bd s' q H G vp:=by
 have:=h.n0;have:=h.nR;have:=h.n1;have:=h.n5;exact⟨r,jt.to_more h.more a (λk d=>by omega),a.blk h.br τ,a.blk h.bd τ,xC h.rs a (λk d=>by omega),xC h.re a (λk d=>by omega),xC h.rp a (λk d=>by omega),h.n0,h.nR,h.n1,h.n5⟩
def HdS.on {Bd:Nat} {G d vp:Value} (h:HdS H w R hi Br Bd s q G d vp) (m:ql w w'):HdS H w' R hi Br Bd s q G d vp:=
 ⟨h.rd.more m,h.more.trans m,qq m h.br,qq m h.bd,jE h.rs m,jE h.re m,jE h.rp m,h.n0,h.nR,h.n1,h.n5⟩
def HdS.fill {M:World} {Bd:Nat} {q':Pk} {J I vp G d vp':Value} (h:HdS M w R hi Br Bd s q J I vp) (i:Nat) (v:Value)
  (N:((Γq q J I vp):Array Value).setIfInBounds i v= (Γq q' G d vp'))
  (Y:w.ownsRow (Bd+1) 38 1 G q'.ss.length (q'.ss.map (Value.int .u32))) (O:w.ownsRow (Bd+1) 5 1 d q'.ex.length (q'.ex.map (Value.int .u8))) (U:w.ownsRow (Bd+1) 5 1 vp' q'.pl.length (q'.pl.map (Value.int .u8))):
  HdS M (w.setCell ⟨Bd,i,ϋ⟩ v) R hi Br Bd s q' G d vp':=by
 have:=h.n0;have:=h.nR;have:=h.n1;have:=h.n5;have a:jt (λb=>b=Bd) w (w.setCell ⟨Bd,i,ϋ⟩ v):=(jt.refl (λb=>b=Bd) w).set (p:=⟨Bd,i,ϋ⟩) rfl _;exact⟨h.rd.off a τ (λg aa e=>by omega),h.more.st (p:=⟨Bd,i,ϋ⟩) (by show _<=Bd;omega) _,a.blk h.br τ,qB (qp h.bd i v) N,xC Y a (λk H=>by omega),xC O a (λk H=>by omega),xC U a (λk H=>by omega),h.n0,h.nR,h.n1,h.n5⟩
def HdS.scal {Bd:Nat} {G d vp:Value} (h:HdS H w R hi Br Bd s q G d vp) (i:Nat) (v:Value) (q':Pk)
  (N:((Γq q G d vp):Array Value).setIfInBounds i v= (Γq q' G d vp)) (I:q'.ss=q.ss) (J:q'.ex=q.ex) (M:q'.pl=q.pl):HdS H (w.setCell ⟨Bd,i,ϋ⟩ v) R hi Br Bd s q' G d vp:=
 h.fill i v N (by rw[I];exact h.rs) (by rw[J];exact h.re) (by rw[M];exact h.rp)
def HdS.begin {w2:World} (H:Z= Γc) (I:(w.alloc (.cells Z 63)).heap.size<=R)
  (r:qu w2 R b 0 (λg=>(w.alloc (.cells Z 63)).heap.size<=g/\g<w2.heap.size)) (m:ql (w.alloc (.cells Z 63)) w2):
  HdS w (w2.alloc (.cells Γc 63)) R w2.heap.size w.heap.size w2.heap.size (b,0) pk0 (δ ϋ 0 0) (δ ϋ 0 0) (δ ϋ 0 0):=by
 subst H;have G:R<w2.heap.size:=by obtain⟨v,d,_⟩:=r.blk;exact qn d
 have J:(w.alloc (.cells Γc 63)).heap.size=w.heap.size+1:=by simp
 exact⟨(r.mono λg h=>h.2).more W4,(W4.trans m).al _,qs (qq m (qj w _)) _,qj w2 _,World.ownsRow_nil _ _ _ _,World.ownsRow_nil _ _ _ _,World.ownsRow_nil _ _ _ _,ϕ _,τ,G,ϕ _⟩
def Pf {e:Nat} {G:Option Addr} {m:Nat} {k:IntKind} (h:w.ownsRow base e 1 (δ G m cap) l.length (l.map (Value.int k))) (N:n<=l.length) (ab:0<l.length):w.ownsRow base e 1 (δ G n cap) (l.take n).length ((l.take n).map (Value.int k)):=by
 obtain⟨ac,I⟩:=h;have d:(l.take n).length=n:=by rw[Ϡ];omega
 rcases I with ⟨_,ad⟩ | ⟨g,aa,cur,H,J,M,ae,Y,O,U⟩
 ·omega
 ·cases H;refine⟨η,ϔ ⟨g,_,cur,by rw[d],J,M,by rw[d];omega,Y,O, ?_⟩⟩;rw[d,W0,List.map_take,<-U,T7,W0,Nat.min_eq_left N]
def XK (M:Option Addr) (cap:Nat) (b:List Int) (base:Nat) (w:World) (h:w.ownsRow base 5 1 (δ M b.length cap) b.length (b.map (Value.int .u8))) (ac:Byt b) (ak:b.length<=1000000):
  Calls prog 58 #[δ M b.length cap] w λe w'=>(∃v,e= .returned (.tuple #[v,μ (xL b).2])/\w.ownsRow base 5 1 v (xL b).1.length ((xL b).1.map (Value.int .u8)))/\w=w':=by
 have N:=κ h;obtain⟨ao,af,aa,am,d,G,_⟩:=SlI.of_owns h τ;cases aa;have J:(∃v,(Ending.returned (.tuple #[δ ϋ 0 0,ύ]))= .returned (.tuple #[v,ύ])/\w.ownsRow base 5 1 v ([]:List Int).length (([]:List Int).map (Value.int .u8))):=⟨_,rfl,World.ownsRow_nil _ _ _ _⟩;have I:=κ J;clear J;by_cases h0:b.length=0
 ·have e:xL b=([],ύ):=by unfold xL;rw[ϐ (J2.1 h0)]
  rw[e];have ab:(b.length:Int)=0:=by omega
  clear d h e G
  go_enter func58,ntmps58
  go_wp2
  go_ret2
  exact⟨I.o,rfl⟩
 ·obtain⟨Y,ae,rfl,ag,ah⟩:=d (b.length-1) τ;have ad:=ac (b.length-1);have ab:((b.length:Int)==0)=ύ:=by rw[beq_eq_false_iff_ne];omega
  have H: ¬b=[]:=λe=>h0 (by rw[e];rfl)
  have e:xL b=if b.getD (b.length-1) 0=0∨(b.length:Int)<b.getD (b.length-1) 0 then ([],ύ) else (b.take (b.length-(b.getD (b.length-1) 0).toNat),ό):=by unfold xL;rw[ώ H]
  have hi:((b.length:Int)-1).toNat=b.length-1:=by omega
  have al:(b.length:Int)-1<(b.length:Int):=by omega
  have ai:0<=(b.length:Int)-1:=by omega
  have aj:1<=(b.length:Int):=by omega
  generalize b.getD (b.length-1) 0=x at *;obtain⟨ap,aq⟩:=ad;by_cases hx0:x=0
  ·rw[ϐ (ϒ hx0)] at e;rw[e];subst hx0;clear d h e G h0 H
   go_enter func58,ntmps58
   go_wp2
   go_ret2
   exact⟨I.o,rfl⟩
  ·have an:(x==0)=ύ:=by simpa using hx0
   by_cases hxl:(b.length:Int)<x
   ·rw[ϐ (ϔ hxl)] at e;rw[e];clear d h e G h0 H hx0
    go_enter func58,ntmps58
    go_wp2
    go_ret2
    exact⟨I.o,rfl⟩
   ·rw[ώ τ] at e;rw[e];have s1:(b.length:Int)-x<=(cap:Int):=by omega
    have s2:((b.length:Int)-x).toNat=b.length-x.toNat:=by omega
    have O:=κ (Pf N.o (n:=b.length-x.toNat) τ τ);have U:=κ s2;clear d h e h0 H hx0 G
    go_enter func58,ntmps58
    go_wp2
    go_ret2
    exact⟨⟨δ (ϊ ⟨Y,ae,ϋ⟩) (b.length-x.toNat) cap,by first | rfl | rw[U.o],by have:=O.o;rw[Ϡ,List.map_take,Nat.min_eq_left (Nat.sub_le _ _)] at this;exact this⟩,rfl⟩
def HdS.grow {w0:World} {Bd:Nat} {vs v':Value} (h:HdS w0 w R hi Br Bd s q vs (δ ϋ 0 0) (δ ϋ 0 0)) (he:q.ex=[]) (hp:q.pl=[]) (ho:w'.ownsRow (Bd+1) 38 1 v' l.length (l.map (Value.int .u32))) (g:w.grownBy w' vs.ownBlock):
  HdS w0 (w'.setCell ⟨Bd,5,ϋ⟩ v') R hi Br Bd s {q with ss:=l} v' (δ ϋ 0 0) (δ ϋ 0 0):=by
 have h0:=h.n0;have h1:=h.nR;have h2:=h.n1;have h5:=h.n5;have hge: ∀z,vs.ownBlock=ϊ z->Bd+1<=z:=λz hz=>jG h.rs hz
 have aG:jt (λz=>vs.ownBlock=ϊ z) w w':=⟨g.os,g.tape,g.output,g.size,λk hk hs=>g.block k hk (λe=>hs e.symm)⟩;have a:jt (λb=>b=Bd) w' (w'.setCell ⟨Bd,5,ϋ⟩ v'):=(jt.refl (λb=>b=Bd) w').set (p:=⟨Bd,5,ϋ⟩) rfl _;have hR: ¬vs.ownBlock=ϊ R:=λe=>by have:=hge R e;omega
 have hBr: ¬vs.ownBlock=ϊ Br:=λe=>by have:=hge Br e;omega
 have hBd: ¬vs.ownBlock=ϊ Bd:=λe=>by have:=hge Bd e;omega
 refine⟨(h.rd.off aG hR (λz hz e=>by have:=hge z e;omega)).off a τ (λz hz e=>by omega), ?_,a.blk (aG.blk h.br hBr) τ,qB (qp (aG.blk h.bd hBd) 5 v') rfl,xC ho a (λk hk=>by omega), ?_, ?_,h.n0,h.nR,h.n1,h.n5⟩
 ·exact(jt.to_more h.more aG (λk hk=>by have:=hge k hk;omega)).st (p:=⟨Bd,5,ϋ⟩) (by show _<=Bd;omega) _
 ·show World.ownsRow _ _ _ _ _ q.ex.length (q.ex.map _);rw[he];exact World.ownsRow_nil _ _ _ _
 ·show World.ownsRow _ _ _ _ _ q.pl.length (q.pl.map _);rw[hp];exact World.ownsRow_nil _ _ _ _
def ql.st10 {w0:World} (m:ql w0 w) (B:Nat) (hB:w0.heap.size<=B) (v0 v1 v2 v3 v4 v5 v6 v7 v8 v9:Value):
  ql w0 ((((((((((w.setCell ⟨B,0,ϋ⟩ v0).setCell ⟨B,1,ϋ⟩ v1).setCell ⟨B,2,ϋ⟩ v2).setCell ⟨B,3,ϋ⟩ v3).setCell ⟨B,4,ϋ⟩ v4).setCell ⟨B,5,ϋ⟩ v5).setCell ⟨B,6,ϋ⟩ v6).setCell ⟨B,7,ϋ⟩ v7).setCell ⟨B,8,ϋ⟩ v8).setCell ⟨B,9,ϋ⟩ v9):=
 (((((((((m.st (p:=⟨B,0,ϋ⟩) hB v0).st (p:=⟨B,1,ϋ⟩) hB v1).st (p:=⟨B,2,ϋ⟩) hB v2).st (p:=⟨B,3,ϋ⟩) hB v3).st (p:=⟨B,4,ϋ⟩) hB v4).st (p:=⟨B,5,ϋ⟩) hB v5).st (p:=⟨B,6,ϋ⟩) hB v6).st (p:=⟨B,7,ϋ⟩) hB v7).st (p:=⟨B,8,ϋ⟩) hB v8).st (p:=⟨B,9,ϋ⟩) hB v9
def Di (w:World) (B:Nat) (v0 v1 v2 v3 v4 v5 v6 v7 v8 v9:Value):
  jt (λb=>b=B) w ((((((((((w.setCell ⟨B,0,ϋ⟩ v0).setCell ⟨B,1,ϋ⟩ v1).setCell ⟨B,2,ϋ⟩ v2).setCell ⟨B,3,ϋ⟩ v3).setCell ⟨B,4,ϋ⟩ v4).setCell ⟨B,5,ϋ⟩ v5).setCell ⟨B,6,ϋ⟩ v6).setCell ⟨B,7,ϋ⟩ v7).setCell ⟨B,8,ϋ⟩ v8).setCell ⟨B,9,ϋ⟩ v9):=
 ((((((((((jt.refl (λb=>b=B) w).set (p:=⟨B,0,ϋ⟩) rfl v0).set (p:=⟨B,1,ϋ⟩) rfl v1).set (p:=⟨B,2,ϋ⟩) rfl v2).set (p:=⟨B,3,ϋ⟩) rfl v3).set (p:=⟨B,4,ϋ⟩) rfl v4).set (p:=⟨B,5,ϋ⟩) rfl v5).set (p:=⟨B,6,ϋ⟩) rfl v6).set (p:=⟨B,7,ϋ⟩) rfl v7).set (p:=⟨B,8,ϋ⟩) rfl v8).set (p:=⟨B,9,ϋ⟩) rfl v9
def KQ (l:List Int) (e:Int):tkB l (l.length:Int)=l/\tkL l (l.length:Int)=[]/\tkE l (l.length:Int) e=e:=by
 refine⟨?_, ?_, ?_⟩
 ·unfold tkB;simp
 ·unfold tkL;simp
 ·unfold tkE;rw[ώ τ]
def kP {e:Nat} (h:w.ownsRow base e 1 v n xs):(n:Int)<=9223372036854775807:=by
 rcases h.2 with ⟨-,rfl⟩ | ⟨g,cap,cur,-,-,-,h1,h2,-⟩
 ·omega
 ·unfold maxLen at h2;omega
def AO {t:TypeId} {a0 a1 a2 a3 a4 a5 a6 a7 a8 a9:Value} (h:w.heap[B]? =ϊ (.cells #[a0,a1,a2,a3,a4,a5,a6,a7,a8,a9] t (0,0))) (v0 v1 v2 v3 v4 v5 v6 v7 v8 v9:Value):
  ((((((((((w.setCell ⟨B,0,ϋ⟩ v0).setCell ⟨B,1,ϋ⟩ v1).setCell ⟨B,2,ϋ⟩ v2).setCell ⟨B,3,ϋ⟩ v3).setCell ⟨B,4,ϋ⟩ v4).setCell ⟨B,5,ϋ⟩ v5).setCell ⟨B,6,ϋ⟩ v6).setCell ⟨B,7,ϋ⟩ v7).setCell ⟨B,8,ϋ⟩ v8).setCell ⟨B,9,ϋ⟩ v9).heap[B]? =ϊ (.cells #[v0,v1,v2,v3,v4,v5,v6,v7,v8,v9] t (0,0)):=
 by
 have h:=qB (cs':= #[v0,a1,a2,a3,a4,a5,a6,a7,a8,a9]) (qp h 0 v0) rfl;have h:=qB (cs':= #[v0,v1,a2,a3,a4,a5,a6,a7,a8,a9]) (qp h 1 v1) rfl;have h:=qB (cs':= #[v0,v1,v2,a3,a4,a5,a6,a7,a8,a9]) (qp h 2 v2) rfl;have h:=qB (cs':= #[v0,v1,v2,v3,a4,a5,a6,a7,a8,a9]) (qp h 3 v3) rfl;have h:=qB (cs':= #[v0,v1,v2,v3,v4,a5,a6,a7,a8,a9]) (qp h 4 v4) rfl;have h:=qB (cs':= #[v0,v1,v2,v3,v4,v5,a6,a7,a8,a9]) (qp h 5 v5) rfl;have h:=qB (cs':= #[v0,v1,v2,v3,v4,v5,v6,a7,a8,a9]) (qp h 6 v6) rfl;have h:=qB (cs':= #[v0,v1,v2,v3,v4,v5,v6,v7,a8,a9]) (qp h 7 v7) rfl;have h:=qB (cs':= #[v0,v1,v2,v3,v4,v5,v6,v7,v8,a9]) (qp h 8 v8) rfl;have h:=qB (cs':= #[v0,v1,v2,v3,v4,v5,v6,v7,v8,v9]) (qp h 9 v9) rfl;exact h
def YK {t:TypeId} {a0 a1 a2 a3 a4 a5 a6 a7 a8 a9:Value} (h:w.heap[B]? =ϊ (.cells #[a0,a1,a2,a3,a4,a5,a6,a7,a8,a9] t (0,0))):w.cell? ⟨B,0,ϋ⟩=ϊ a0/\w.cell? ⟨B,1,ϋ⟩=ϊ a1/\w.cell? ⟨B,2,ϋ⟩=ϊ a2/\w.cell? ⟨B,3,ϋ⟩=ϊ a3/\w.cell? ⟨B,4,ϋ⟩=ϊ a4/\w.cell? ⟨B,5,ϋ⟩=ϊ a5/\w.cell? ⟨B,6,ϋ⟩=ϊ a6/\w.cell? ⟨B,7,ϋ⟩=ϊ a7/\w.cell? ⟨B,8,ϋ⟩=ϊ a8/\w.cell? ⟨B,9,ϋ⟩=ϊ a9:=
 ⟨qm h 0 rfl,qm h 1 rfl,qm h 2 rfl,qm h 3 rfl,qm h 4 rfl,qm h 5 rfl,qm h 6 rfl,qm h 7 rfl,qm h 8 rfl,qm h 9 rfl⟩
def ID {t:TypeId} {a0 a1 a2 a3 a4 a5 a6 a7 a8 a9:Value} (h:w.heap[B]? =ϊ (.cells #[a0,a1,a2,a3,a4,a5,a6,a7,a8,a9] t (0,0))):w.frozen? ⟨B,0,ϋ⟩=ύ/\w.frozen? ⟨B,1,ϋ⟩=ύ/\w.frozen? ⟨B,2,ϋ⟩=ύ/\w.frozen? ⟨B,3,ϋ⟩=ύ/\w.frozen? ⟨B,4,ϋ⟩=ύ/\w.frozen? ⟨B,5,ϋ⟩=ύ/\w.frozen? ⟨B,6,ϋ⟩=ύ/\w.frozen? ⟨B,7,ϋ⟩=ύ/\w.frozen? ⟨B,8,ϋ⟩=ύ/\w.frozen? ⟨B,9,ϋ⟩=ύ:=
 ⟨yw h 0,yw h 1,yw h 2,yw h 3,yw h 4,yw h 5,yw h 6,yw h 7,yw h 8,yw h 9⟩
def WD {w0:World} {t:TypeId} {a0 a1 a2 a3 a4 a5 a6 a7 a8 a9:Value} (m:ql w0 w) (hB:w0.heap.size<=B) (h:w.heap[B]? =ϊ (.cells #[a0,a1,a2,a3,a4,a5,a6,a7,a8,a9] t (0,0))) (v0 v1 v2 v3 v4 v5 v6 v7 v8 v9:Value):
  ∃WF,((((((((((w.setCell ⟨B,0,ϋ⟩ v0).setCell ⟨B,1,ϋ⟩ v1).setCell ⟨B,2,ϋ⟩ v2).setCell ⟨B,3,ϋ⟩ v3).setCell ⟨B,4,ϋ⟩ v4).setCell ⟨B,5,ϋ⟩ v5).setCell ⟨B,6,ϋ⟩ v6).setCell ⟨B,7,ϋ⟩ v7).setCell ⟨B,8,ϋ⟩ v8).setCell ⟨B,9,ϋ⟩ v9)=WF/\ql w0 WF/\jt (λb=>b=B) w WF/\WF.cell? ⟨B,0,ϋ⟩=ϊ v0/\WF.cell? ⟨B,1,ϋ⟩=ϊ v1/\WF.cell? ⟨B,2,ϋ⟩=ϊ v2/\WF.cell? ⟨B,3,ϋ⟩=ϊ v3/\WF.cell? ⟨B,4,ϋ⟩=ϊ v4/\WF.cell? ⟨B,5,ϋ⟩=ϊ v5/\WF.cell? ⟨B,6,ϋ⟩=ϊ v6/\WF.cell? ⟨B,7,ϋ⟩=ϊ v7/\WF.cell? ⟨B,8,ϋ⟩=ϊ v8/\WF.cell? ⟨B,9,ϋ⟩=ϊ v9:=
 ⟨_,rfl,m.st10 B hB v0 v1 v2 v3 v4 v5 v6 v7 v8 v9,Di w B v0 v1 v2 v3 v4 v5 v6 v7 v8 v9,YK (AO h v0 v1 v2 v3 v4 v5 v6 v7 v8 v9)⟩
def Xq (r:Pk×Int) (w:World) (e:Ending) (w':World):Prop:=
 ∃vs ve vp,e= .returned (.tuple #[.agg #[.bool r.1.mr,.int .u8 r.1.ty,.int .u16 r.1.sq,.int .u32 r.1.st,.int .u32 r.1.sc,vs,.bool r.1.has,.int .u16 r.1.pr,ve,vp],.int .i64 r.2])/\PkS w' vs ve vp r.1/\ql w w'
def yS (r:Pk×Int) (w:World) (e:Ending) (w':World):Prop:=
 ∃vs ve vp,e= .returned (.tuple #[.agg #[.bool r.1.mr,.int .u8 r.1.ty,.int .u16 r.1.sq,.int .u32 r.1.st,.int .u32 r.1.sc,vs,.bool r.1.has,.int .u16 r.1.pr,ve,vp],.int .i64 r.2])/\PkS w' vs ve vp r.1/\ql w w'/\ ∀b,(vs.ownBlock=ϊ b∨ve.ownBlock=ϊ b∨vp.ownBlock=ϊ b)->w.heap.size<=b
def yS.post {r:Pk×Int} {e:Ending} (h:yS r w e w'):Xq r w e w':=by
 obtain⟨vs,ve,vp,h1,h2,h3,_⟩:=h;exact⟨vs,ve,vp,h1,h2,h3⟩
def VB (b:Nat) (h:(δ ϋ 0 0).ownBlock=ϊ b∨(δ ϋ 0 0).ownBlock=ϊ b∨(δ ϋ 0 0).ownBlock=ϊ b):w.heap.size<=b:=by
 rcases h with h | h | h<;>cases h
def JH (h:Byt s.1) (k:Nat) (hk:k<=4):0<=num (tkB s.1 k)/\num (tkB s.1 k)<2 ^ (8* k):=zv (tkB s.1 k) k (jL h k) (zh s.1 k τ) τ
def s9H (f:Int) (s:RdS):RdS:=if bit f 32 then (if (xL s.1).2 then ([],s.2) else wrS ([],s.2) 2) else ([],s.2)
def l9H (f:Int) (s:RdS):List Int:=if bit f 32 then (xL s.1).1 else s.1
def Ek {f:Int} {s:RdS} (h:Jm s):(s9H f s).2=(vB f s).2/\(s9H f s).1=[]/\((vB f s).2=0->l9H f s=(vB f s).1):=by
 obtain⟨l,e⟩:=s;unfold s9H vB l9H bit;by_cases he:e=0
 ·subst he;by_cases h1:f/32%2=1
  ·simp only[h1,decide_true,A0,not_true,C2];by_cases h2:(xL l).2=ό
   ·simp[h2]
   ·simp only[h2];unfold wrS;simp
  ·simp[h1]
 ·have hl:l=[]:=h he;subst hl;by_cases h1:f/32%2=1
  ·have hu:(xL []).2=ύ:=rfl;simp[h1,hu,wrS,he]
  ·simp[h1,he]
def Jc (v:Value) (b:List Int) (w:World) (sl:SlI .u8 w v b) (hl:(200:Int)<b.length):
  Calls prog 16 #[v] w (yS (jl b) w):=by
 have e:jl b=(pk0,4):=by unfold jl;rw[ϐ hl]
 rw[e];obtain⟨ob,cb,rfl,_⟩:=sl;clear e
 go_enter func16,ntmps16
 go_wp2
 (refine bodyPost_ret (v:= .tuple #[Γc,ι 4]) ?rr1 rfl ?_;(case rr1=>(simp[results,results16,go_sem])))
 refine⟨δ ϋ 0 0,δ ϋ 0 0,δ ϋ 0 0,rfl,⟨SlI.nil _ _,SlI.nil _ _,SlI.nil _ _⟩, ?_,VB⟩;exact ql.alloc _ _
def Qd (v:Value) (b:List Int) (w:World) (sl:SlI .u8 w v b) (hb:Byt b) (hl: ¬(200:Int)<b.length):
  Calls prog 16 #[v] w (yS (jl b) w):=by
 obtain⟨i0,hi',hz0,hz1,hz2⟩:=info_parts (P:=prog) (e:=38) (z:= ω 0) (size:=1) (bytes:=4) ξ;have SL:=κ (sl.keep (ql.alloc w (.cells Γc 63)));have hrd:jl b=JJ b (yj (fH b) (yy (fH b) (s5H b))):=by unfold jl;rw[ώ hl]
 have b1:Byt (s1H b).1:=hb.drop _;have b2:Byt (s2H b).1:=b1.drop _;have b3:Byt (s3H b).1:=b2.drop _;have b4:Byt (s4H b).1:=b3.drop _;have u1:=JH (s:=(b,0)) hb 1 ζ;have u2:=JH b1 1 ζ;obtain⟨f,hf⟩:=ν (fH b);obtain⟨g,hg⟩:=ν (gH b);obtain⟨sq,hsq⟩: ∃x,num (tkB (s2H b).1 2)=x:=⟨_,rfl⟩;obtain⟨st,hst⟩: ∃x,num (tkB (s3H b).1 4)=x:=⟨_,rfl⟩;obtain⟨sc,hsc⟩: ∃x,num (tkB (s4H b).1 4)=x:=⟨_,rfl⟩;have f0:0<=f/\f<=255:=by rw[<-hf];have h1:num (tkB b 1)<256:=u1.2;have h0:0<=num (tkB b 1):=u1.1;unfold fH;omega
 have g0:0<=g/\g<=255:=by rw[<-hg];have h1:num (tkB (s1H b).1 1)<256:=u2.2;have h0:0<=num (tkB (s1H b).1 1):=u2.1;unfold gH;omega
 have E1:Hid (num (tkB b 1)=f):=κ hf;have E2:Hid (num (tkB (s1H b).1 1)=g):=κ hg;have E3:=κ hsq;have E4:=κ hst;have E5:=κ hsc;have hga:=(Gd g0).1;have hfa:=(Gd f0).2;have hfb:=(JW f0).2.2.2;have hfc:=(JW f0).2.2.1;have hmk: ∀x l,mkH b x l=⟨decide (128<=g),g%128,sq,st,sc,x.1,bit f 16,x.2.1,x.2.2,l⟩:=λx l=>by unfold mkH bit;rw[hf,hg,hsq,hst,hsc]
 have hen: ∀x,JJ b x=if (vB f x.2).2=0 then (mkH b x.1 (vB f x.2).1,0) else (pk0,(vB f x.2).2):=λx=>by unfold JJ;rw[hf]
 rw[hf] at hrd;obtain⟨S6,hS6⟩:=ν (yy f (s5H b));have hsh6:Jm S6:=by
  rw[<-hS6];have h5:Jm (s5H b):=by rw[WI];exact vj _ _
  unfold yy wrS;split
  ·split
   ·exact h5
   ·intro _;rfl
  ·exact h5
 rw[hS6] at hrd;rw[hrd,hen,hmk];obtain⟨X,hX⟩:=ν (yj f S6);rw[hX];obtain⟨⟨L7,P7,X7⟩,S8⟩:=X;have hx0:(L7=(j9 (f%16).toNat S6).1)/\(bit f 16=ό->P7=(Qj (j9 (f%16).toNat S6).2).1.1/\X7=(Qj (j9 (f%16).toNat S6).2).1.2/\S8=(Qj (j9 (f%16).toNat S6).2).2)/\(bit f 16=ύ->P7=0/\X7=[]/\S8=(j9 (f%16).toNat S6).2):=by
  unfold yj at hX;unfold bit;by_cases h1:f/16%2=1
  ·rw[ϐ h1] at hX;cases hX;simp[h1]
  ·rw[ώ h1] at hX;cases hX;simp[h1]
 clear hX;have HS6:=κ hS6;obtain⟨f0,f1⟩:=f0;obtain⟨g0,g1⟩:=g0;have hs9t:bit f 32=ό->s9H f S8=(if (xL S8.1).2 then ([],S8.2) else wrS ([],S8.2) 2)/\l9H f S8=(xL S8.1).1:=λh=>by unfold s9H l9H;simp[h]
 have hs9f:bit f 32=ύ->s9H f S8=([],S8.2)/\l9H f S8=S8.1:=λh=>by unfold s9H l9H;simp[h]
 have hs9p:=λh=> @Ek f S8 h
 obtain⟨S9,hS9⟩:=ν (s9H f S8);obtain⟨L9,hL9⟩:=ν (l9H f S8);obtain⟨FH,hFH⟩:=ν (bit f 16);obtain⟨FP,hFP⟩:=ν (bit f 32);rw[hS9,hL9,hFP] at hs9t hs9f;rw[hS9,hL9] at hs9p;rw[hFH] at hx0 hfb ⊢;rw[hFP] at hfc;obtain⟨PL,hPL⟩:=ν ((vB f S8).1);obtain⟨PE,hPE⟩:=ν ((vB f S8).2);rw[hPL,hPE] at hs9p ⊢;have H9T:=κ hs9t;have H9F:=κ hs9f;have H9P:=κ hs9p;clear hs9t hs9f hs9p hS9 hL9 hFH hFP hPL hPE;obtain⟨QR,hQR⟩: ∃QR:Pk×Int,(if PE=0 then (Pk.mk (decide (128<=g)) (g%128) sq st sc L7 FH P7 X7 PL,(0:Int)) else (pk0,PE))=QR:=⟨_,rfl⟩;rw[hQR];obtain⟨ob,cb,rfl,-⟩:=sl;have hgm:0<=g%128/\g%128<=127:=by omega
 obtain⟨NS,hNS⟩: ∃NS:Nat,f%16=(NS:Int):=⟨(f%16).toNat,τ⟩;have hns15:NS<=15:=by omega
 have hnst:(f%16).toNat=NS:=by omega
 rw[hNS] at hfa;rw[hnst] at hx0;have HX0:=κ hx0;clear hx0;have HNST:=κ hnst;clear hrd b1 b2 b3 b4 u1 u2 hf hg hsq hst hsc hmk hen hS6 hsh6 hNS hnst;obtain⟨GM,hGM⟩:=ν (g%128);rw[hGM] at hga hgm hQR;have HQ:=κ hQR;clear hQR;obtain⟨gm0,gm1⟩:=hgm;clear hGM;have hb200:b.length<=1000000:=by omega
 go_enter func16,ntmps16
 go_upto_region 10 with (first | (go_at_call 51;(go_call NV _ b _ SL.o hb hb200 as e w2 ⟨R,rfl,hR,hr,hm⟩;have H0:=κ (HdS.begin rfl hR hr hm);clear hR hr hm)) | (go_at_call 52;((with_reducible refine(jT H0.o.rd).mono ?_);rintro e w3 ⟨rfl,r3,a3⟩;rw[E1.o];have H1:=κ (H0.o.step (s':=s1H b) r3 a3);clear r3 a3)) | (go_at_call 52;((with_reducible refine(jT H1.o.rd).mono ?_);rintro e w4 ⟨rfl,r4,a4⟩;rw[E2.o];have H2:=κ (H1.o.step (s':=s2H b) r4 a4);clear r4 a4;have x0:=β0 H2.o.bd;have z0:=yw H2.o.bd 0;have x1:=β1 H2.o.bd;have z1:=yw H2.o.bd 1;have H3:Hid (HdS w ((w4.setCell ⟨w2.heap.size,0,ϋ⟩ (μ (decide (128<=g)))).setCell ⟨w2.heap.size,1,ϋ⟩ (υ GM)) R w2.heap.size w.heap.size w2.heap.size (s2H b) ⟨(decide (128<=g)),GM,0,0,0,[],ύ,0,[],[]⟩ (δ ϋ 0 0) (δ ϋ 0 0) (δ ϋ 0 0)):=κ ((H2.o.scal 0 (μ (decide (128<=g))) ⟨(decide (128<=g)),0,0,0,0,[],ύ,0,[],[]⟩ rfl rfl rfl rfl).scal 1 (υ GM) ⟨(decide (128<=g)),GM,0,0,0,[],ύ,0,[],[]⟩ rfl rfl rfl rfl))) | (go_at_call 53;(go_call xn H3.o.rd as e w5 ⟨rfl,r5,a5⟩;rw[E3.o];have H4:=κ (H3.o.step (s':=s3H b) r5 a5);clear r5 a5 x0 z0 x1 z1;have x2:=β2 H4.o.bd;have z2:=yw H4.o.bd 2;have H5:Hid (HdS w (w5.setCell ⟨w2.heap.size,2,ϋ⟩ (φ sq)) R w2.heap.size w.heap.size w2.heap.size (s3H b) ⟨(decide (128<=g)),GM,sq,0,0,[],ύ,0,[],[]⟩ (δ ϋ 0 0) (δ ϋ 0 0) (δ ϋ 0 0)):=κ (H4.o.scal 2 (φ sq) ⟨(decide (128<=g)),GM,sq,0,0,[],ύ,0,[],[]⟩ rfl rfl rfl rfl))) | (go_at_call 54;((with_reducible refine(jD H5.o.rd).mono ?_);rintro e w6 ⟨rfl,r6,a6⟩;rw[E4.o];have H6:=κ (H5.o.step (s':=s4H b) r6 a6);clear r6 a6 x2 z2;have x3:=β3 H6.o.bd;have z3:=yw H6.o.bd 3;have H7:Hid (HdS w (w6.setCell ⟨w2.heap.size,3,ϋ⟩ (ω st)) R w2.heap.size w.heap.size w2.heap.size (s4H b) ⟨(decide (128<=g)),GM,sq,st,0,[],ύ,0,[],[]⟩ (δ ϋ 0 0) (δ ϋ 0 0) (δ ϋ 0 0)):=κ (H6.o.scal 3 (ω st) ⟨(decide (128<=g)),GM,sq,st,0,[],ύ,0,[],[]⟩ rfl rfl rfl rfl))) | (go_at_call 54;((with_reducible refine(jD H7.o.rd).mono ?_);rintro e w7 ⟨rfl,r7,a7⟩;rw[E5.o];have H8:=κ (H7.o.step (s':=s5H b) r7 a7);clear r7 a7 x3 z3;have x4:=β4 H8.o.bd;have z4:=yw H8.o.bd 4;have H9:Hid (HdS w (w7.setCell ⟨w2.heap.size,4,ϋ⟩ (ω sc)) R w2.heap.size w.heap.size w2.heap.size (s5H b) ⟨(decide (128<=g)),GM,sq,st,sc,[],ύ,0,[],[]⟩ (δ ϋ 0 0) (δ ϋ 0 0) (δ ϋ 0 0)):=κ (H8.o.scal 4 (ω sc) ⟨(decide (128<=g)),GM,sq,st,sc,[],ύ,0,[],[]⟩ rfl rfl rfl rfl))))
 generalize w7.setCell ⟨w2.heap.size,4,ϋ⟩ (ω sc)=W9 at *;generalize w2.heap.size=hi at *;clear H0 H1 H2 H3 H4 H5 H6 H7 H8 x4 z4 SL E1 E2 E3 E4 E5;obtain⟨FB,fb1,fb2⟩: ∃FB:Bool,(FB=ό->(f<128∨191<f))/\(FB=ύ-> ¬(f<128∨191<f)):=⟨decide (f<128∨191<f),λh=>by simpa using h,λh=>by simpa using h⟩;have FB1:=κ fb1;have FB2:=κ fb2;clear fb1 fb2
 go_cut [46] from 41 (λs46 wx=>s46= μ FB/\wx=W9)
 case first=>
  cases FB with
  | true=>
   have hh:=FB1.o η;by_cases h1:f<128
   ·clear hh;go_wp2;go_meet;exact⟨rfl,rfl⟩
   ·have h2:191<f:=by omega
    clear hh;go_wp2;go_meet;exact⟨rfl,rfl⟩
  | false=>
   have hh:=FB2.o η;have h1: ¬f<128:=by omega
   have h2: ¬191<f:=by omega
   clear hh;go_wp2;go_meet;exact⟨rfl,rfl⟩
 case rest=>
 obtain⟨rfl,rfl⟩:=hcut
 go_upto_if 46 with fail
 go_cut [] from 47 (λwx=>HdS w wx R hi w.heap.size hi S6 ⟨(decide (128<=g)),GM,sq,st,sc,[],ύ,0,[],[]⟩ (δ ϋ 0 0) (δ ϋ 0 0) (δ ϋ 0 0))
 case first=>
  cases FB with
  | true=>
   have hS:yy f (s5H b)=wrS (s5H b) 2:=by unfold yy;rw[ϐ (FB1.o η)]
   have HX:=κ (HS6.o.symm.trans hS);clear hS
   go_wp2_with (go_at_call 55;(go_call zo H9.o.rd 2 as e w10 ⟨rfl,r10,a10⟩;have H10:=κ (H9.o.step (s':=wrS (s5H b) 2) r10 a10);clear r10 a10))
   go_meet;rw[HX.o];exact H10.o
  | false=>
   have hS:yy f (s5H b)=s5H b:=by unfold yy;rw[ώ (FB2.o η)]
   have HX:=κ (HS6.o.symm.trans hS);clear hS;go_wp2;go_meet;rw[HX.o];exact H9.o
 case rest=>
 have HC:=κ hcut;clear hcut H9 FB1 FB2 HS6;go_wp2
 go_loopw [51] (λi wr=> ∃k:Nat,k<=NS/\i= υ k/\ ∃vs,HdS w wr R hi w.heap.size hi (j9 k S6).2 ⟨(decide (128<=g)),GM,sq,st,sc,(j9 k S6).1,ύ,0,[],[]⟩ vs (δ ϋ 0 0) (δ ϋ 0 0)) (λi _=>NS-(intOf i).toNat)
 case atStart=>exact⟨0,τ,rfl,_,HC.o⟩
 case round=>
  obtain⟨k,hk,rfl,vs,hwx⟩:=hrel;have HW:=κ hwx;by_cases hlt:k<NS
  ·have hki:(k:Int)<(NS:Int):=by omega
   have hll:=gN k S6;have HLL:=κ hll;obtain⟨os,ns,cs,rfl,hns,_⟩:=qT hwx.rs;subst hns;have hbd: ¬(hi=R∨(δ os (j9 k S6).1.length cs).ownBlock=ϊ hi):=by
    rintro(e | e)
    ·have:=HW.o.n1;omega
    ·have:=jG HW.o.rs e;omega
   have C5:=λ(x:qz (λb=>b=R∨(δ os (j9 k S6).1.length cs).ownBlock=ϊ b) wr)=>β5 (x.h.blk HW.o.bd hbd)
   clear hwx hll
   go_wp2_with fail
   refine QN (λb=>b=R∨(δ os (j9 k S6).1.length cs).ownBlock=ϊ b) wr 7 8 [3,4,5,7] ?_
   refine Qs3 ?_
   (refine Ql ?_;intro K hK)
   refine(jD (HW.o.rd.more (ql.drewN _ 1))).mono ?_;rintro e w8 ⟨rfl,r8,a8⟩;have a8':jt (λb=>b=R∨(δ os (j9 k S6).1.length cs).ownBlock=ϊ b) wr w8:=((jt.refl _ _).drewN _).trans (a8.mono λb h=>ϒ h);refine⟨_,rfl,qi a8',hK _ _ ?_⟩;clear hK K
   (refine Ql ?_;intro K hK)
   have a9:=a8'.more (ql.alloc w8 (.cells #[ω (num (tkB (j9 k S6).2.1 4))] 38));refine⟨qi a9,hK _ _ ?_⟩;clear hK K;have J8:=(HW.o.on (ql.drewN wr 1)).step (s':=tkS (j9 k S6).2 4) r8 a8;have J9:=J8.on (ql.alloc w8 (.cells #[ω (num (tkB (j9 k S6).2.1 4))] 38))
   (refine jR rfl rfl ?_;intro K hK)
   refine XU (.tmp 54) (.tmp 57) 61 rfl (hi+1) 38 i0 (ω 0) 4 underlying61 hi' hz0 hz1 hz2 rfl (δ os (j9 k S6).1.length cs) .u32 (j9 k S6).1 rfl J9.rs (δ (ϊ ⟨w8.heap.size,0,ϋ⟩) 1 1) [num (tkB (j9 k S6).2.1 4)] rfl (SlI.of_owns (World.ownsRow_lit (e:=38) (size:=1) (base:=w8.heap.size) w8 #[ω (num (tkB (j9 k S6).2.1 4))] 1 (ϕ _) (by unfold maxLen;omega) rfl) η) (by rw[HLL.o];simp;omega) ζ (by have:=qn J9.bd;omega) ?_;intro v10 w10 ho10 hg10 hb10;have a10:jt (λb=>b=R∨(δ os (j9 k S6).1.length cs).ownBlock=ϊ b) wr w10:=a9.trans ⟨hg10.os,hg10.tape,hg10.output,hg10.size,λk hk hs=>hg10.block k hk (λe=>hs (ϔ e.symm))⟩;have J10:=κ (J9.grow rfl rfl ho10 hg10);have q5:w10.cell? ⟨hi,5,ϋ⟩=ϊ (δ os (j9 k S6).1.length cs):=by
    have:w10.heap[hi]? =_:=(hg10.block hi (qn J9.bd) (λe=>by have:=jG J9.rs e.symm;omega)).trans J9.bd;exact qm this 5 rfl
   have z5:w10.frozen? ⟨hi,5,ϋ⟩=ύ:=by
    have:w10.heap[hi]? =_:=(hg10.block hi (qn J9.bd) (λe=>by have:=jG J9.rs e.symm;omega)).trans J9.bd;exact yw this 5
   obtain⟨o10,n10,c10,rfl,hz8,hz9⟩:=qT ho10;clear hz8 hz9 ho10 hg10 hb10;refine⟨qi a10,hK _ _ ?_⟩;clear hK K;go_simp
   iterate 1 (refine qE rfl rfl (qi a10) ?_;intro K hK;go_big_quiet_op;go_big_quiet_on)
   (refine Qe ?_;intro K hK)
   refine hK _ _ ?_;clear hK K;refine qA ?_;go_wp2;go_roundw
   case rel=>exact⟨k+1,τ,by go_num,_,J10.o⟩
   case measure=>simp[intOf];omega
  ·obtain rfl:k=NS:=by omega
   have hki: ¬(k:Int)<(k:Int):=by omega
   clear hwx HC hk hlt;obtain⟨hx1,hx2,hx3⟩:=HX0.o;have hw:=HW.o;rw[<-hx1] at hw;obtain⟨S7,hS7⟩:=ν ((j9 k S6).2);rw[hS7] at hw hx2 hx3;have b7:=hw.rd.byt;have u7:=JH (s:=S7) b7 2 ζ;have u8:=JH (s:=tkS S7 2) (b7.drop _) 2 ζ;unfold Qj at hx2;obtain⟨N7,hN7⟩: ∃x,num (tkB S7.1 2)=x:=⟨_,rfl⟩;obtain⟨N8,hN8⟩: ∃x,num (tkB (tkS S7 2).1 2)=x:=⟨_,rfl⟩;have u7:0<=num (tkB S7.1 2)/\num (tkB S7.1 2)<65536:=u7;have u8:0<=num (tkB (tkS S7 2).1 2)/\num (tkB (tkS S7 2).1 2)<65536:=u8;rw[hN7] at hx2 u7;rw[hN8] at hx2 u8;obtain⟨u70,u71⟩:=u7;obtain⟨u80,u81⟩:=u8;have EN7:=κ hN7;have EN8:=κ hN8;have HB:=κ hw;have HX2:=κ hx2;have HX3:=κ hx3;clear hw hx1 hx2 hx3 hS7 HW HX0 b7 hN7 hN8 HNST;have x6:=β6 HB.o.bd;have z6:=yw HB.o.bd 6;have H1:Hid (HdS w (wr.setCell ⟨hi,6,ϋ⟩ (μ FH)) R hi w.heap.size hi S7 ⟨(decide (128<=g)),GM,sq,st,sc,L7,FH,0,[],[]⟩ vs (δ ϋ 0 0) (δ ϋ 0 0)):=κ (HB.o.scal 6 (μ FH) ⟨(decide (128<=g)),GM,sq,st,sc,L7,FH,0,[],[]⟩ rfl rfl rfl rfl)
   go_upto_if 66 with fail
   go_cut [] from 67 (λwx=> ∃ve,HdS w wx R hi w.heap.size hi S8 ⟨(decide (128<=g)),GM,sq,st,sc,L7,FH,P7,X7,[]⟩ vs ve (δ ϋ 0 0))
   case first=>
    cases FH with
    | false=>
     go_wp2;go_meet;obtain⟨e1,e2,e3⟩:=HX3.o η;rw[e1,e2,e3];exact⟨_,H1.o⟩
    | true=>
     go_wp2_with (first | (go_at_call 53;((with_reducible refine(xn H1.o.rd).mono ?_);rintro e wa ⟨rfl,ra,aa⟩;rw[EN7.o];have H2:=κ (H1.o.step (s':=tkS S7 2) ra aa);clear ra aa x6 z6;have x7:=β7 H2.o.bd;have z7:=yw H2.o.bd 7;have H3:Hid (HdS w (wa.setCell ⟨hi,7,ϋ⟩ (φ N7)) R hi w.heap.size hi (tkS S7 2) ⟨(decide (128<=g)),GM,sq,st,sc,L7,ό,N7,[],[]⟩ vs (δ ϋ 0 0) (δ ϋ 0 0)):=κ (H2.o.scal 7 (φ N7) ⟨(decide (128<=g)),GM,sq,st,sc,L7,ό,N7,[],[]⟩ rfl rfl rfl rfl))) | (go_at_call 53;((with_reducible refine(xn H3.o.rd).mono ?_);rintro e wb ⟨rfl,rb,ab⟩;rw[EN8.o];have H4:=κ (H3.o.step (s':=tkS (tkS S7 2) 2) rb ab);clear rb ab x7 z7)) | (go_at_call 56;(go_call QI (4* N8) H4.o.rd as e we ⟨v8,rfl,o8,rc,ac⟩;have H5:=κ (H4.o.step (s':=tkS (tkS (tkS S7 2) 2) (4* N8)) rc ac);have O8:=κ (kq o8 (show hi+1<=wb.heap.size from by have:=qn H4.o.bd;omega));clear rc ac o8;have x8:=β8 H5.o.bd;have z8:=yw H5.o.bd 8;obtain⟨o8,n8,c8,rfl,-,-⟩:=qT O8.o)))
     go_meet;obtain⟨e1,e2,e3⟩:=HX2.o η;rw[e1,e2,e3];exact⟨_,H5.o.fill 8 (δ o8 n8 c8) (q':=⟨(decide (128<=g)),GM,sq,st,sc,L7,ό,N7,(tkB (tkS (tkS S7 2) 2).1 (4* N8)),[]⟩) rfl H5.o.rs O8.o H5.o.rp⟩
   case rest=>
    obtain⟨ve,hc⟩:=hcut;have HC:=κ hc;have hb8:=hc.rd.byt;have hl8:=hc.rd.small;have hsh:=hc.rd.shut;have HB8:=κ hb8;have HP:=κ (H9P.o hsh);clear hc H1 HB HX2 HX3 EN7 EN8 x6 z6 H9P hsh hb8
    go_upto_if 84 with (first | (go_at_call 57;(go_call zn HC.o.rd as e wd ⟨rfl,rfl⟩)) | (go_at_call 56;(go_call QI (S8.1.length:Int) HC.o.rd as e we ⟨v9,rfl,o9,rd,ad⟩;rw[(KQ S8.1 S8.2).1] at o9;rw[(KQ S8.1 S8.2).2.1,(KQ S8.1 S8.2).2.2] at rd;have H5:=κ (HC.o.step (s':=([],S8.2)) rd ad);have O9:=κ (kq o9 (show hi+1<=_ from by have:=qn HC.o.bd;omega));clear rd ad o9;have x9:=β9 H5.o.bd;have z9:=yw H5.o.bd 9;obtain⟨o9,n9,c9,rfl,hn9,-⟩:=qT O9.o;subst hn9;have H6:=κ (H5.o.fill 9 (δ o9 S8.1.length c9) (q':=⟨(decide (128<=g)),GM,sq,st,sc,L7,FH,P7,X7,S8.1⟩) rfl H5.o.rs H5.o.re O9.o))))
    go_cut [8,9] from 85 (λs8 s9 wx=> ∃vp,HdS w wx R hi w.heap.size hi S9 ⟨(decide (128<=g)),GM,sq,st,sc,L7,FH,P7,X7,L9⟩ vs ve vp)
    case first=>
     cases FP with
     | false=>
      go_wp2;go_meet;obtain⟨e1,e2⟩:=H9F.o η;rw[e1,e2];exact⟨_,H6.o⟩
     | true=>
      obtain⟨U,hU⟩:=ν ((xL S8.1).2);have h9:=H9T.o η;rw[hU] at h9;have HU:=κ hU;have H9:=κ h9;clear h9 hU;cases U with
      | true=>
       go_wp2_with (go_at_call 58;(go_call XK o9 c9 S8.1 (hi+1) _ H6.o.rp HB8.o hl8 as e wf ⟨⟨v10,rfl,o10⟩,rfl⟩;rw[HU.o];have O10:=κ o10;clear o10;obtain⟨o10,n10,c10,rfl,-,-⟩:=qT O10.o))
       go_meet;obtain⟨e1,e2⟩:=H9.o;rw[e1,e2,ϐ trivial];exact⟨_,H6.o.fill 9 (δ o10 n10 c10) (q':=⟨(decide (128<=g)),GM,sq,st,sc,L7,FH,P7,X7,(xL S8.1).1⟩) rfl H6.o.rs H6.o.re O10.o⟩
      | false=>
       go_wp2_with (first | (go_at_call 58;(go_call XK o9 c9 S8.1 (hi+1) _ H6.o.rp HB8.o hl8 as e wf ⟨⟨v10,rfl,o10⟩,rfl⟩;rw[HU.o];have O10:=κ o10;clear o10;obtain⟨o10,n10,c10,rfl,-,-⟩:=qT O10.o)) | (go_at_call 55;(go_call zo H6.o.rd 2 as e wg ⟨rfl,rg,ag⟩;have O11:=κ (xC O10.o ag (λk hk=>by have:=H6.o.n1;omega));have H7:=κ (H6.o.step (s':=wrS ([],S8.2) 2) rg ag);clear rg ag;have x9':=β9 H7.o.bd;have z9':=yw H7.o.bd 9)))
       go_meet;obtain⟨e1,e2⟩:=H9.o;rw[e1,e2,ώ η];exact⟨_,H7.o.fill 9 (δ o10 n10 c10) (q':=⟨(decide (128<=g)),GM,sq,st,sc,L7,FH,P7,X7,(xL S8.1).1⟩) rfl H7.o.rs H7.o.re O11.o⟩
    case rest=>
     obtain⟨vp,hc⟩:=hcut;have HE:=κ hc;clear hc H6 H5 HC H9T H9F x9 z9 O9 HB8;obtain⟨hp1,hp2,hp3⟩:=HP.o;have hev:(if ¬S9.2=0 then S9.2 else if 0<S9.1.length then 4 else 0)=PE:=by
      rw[<-hp1,hp2];by_cases h0:S9.2=0<;>simp[h0]
     have HEV:=κ hev;have HP3:=κ hp3;clear hev hp1 hp2 hp3 HP;obtain⟨os,ns,cs,rfl,-,-⟩:=qT HE.o.rs;obtain⟨oe,ne,ce,rfl,-,-⟩:=qT HE.o.re;obtain⟨op,np,cp,rfl,-,-⟩:=qT HE.o.rp;obtain⟨y0,y1,y2,y3,y4,y5,y6,y7,y8,y9⟩:=YK HE.o.bd
     dsimp only at y0 y1 y2 y3 y4 y5 y6 y7 y8 y9
     obtain⟨g0,g1,g2,g3,g4,g5,g6,g7,g8,g9⟩:=YK HE.o.br;obtain⟨k0,k1,k2,k3,k4,k5,k6,k7,k8,k9⟩:=ID HE.o.br;by_cases h0:PE=0
     ·have hq:=HQ.o;rw[ϐ h0,<-HP3.o h0] at hq;have HQ2:=κ hq;clear hq HQ HP3;subst h0
      go_wp2_with (go_at_call 59;(go_call yT HE.o.rd as e wh ⟨rfl,rfl⟩;rw[HEV.o]))
      obtain⟨WF,hWF,mf,aw,r0,r1,r2,r3,r4,r5,r6,r7,r8,r9⟩:=WD HE.o.more (ϕ _) HE.o.br (μ (decide (128<=g))) (υ GM) (φ sq) (ω st) (ω sc) (δ os ns cs) (μ FH) (φ P7) (δ oe ne ce) (δ op np cp);clear g0 g1 g2 g3 g4 g5 g6 g7 g8 g9 k0 k1 k2 k3 k4 k5 k6 k7 k8 k9 y0 y1 y2 y3 y4 y5 y6 y7 y8 y9;rw[hWF];clear hWF
      (refine bodyPost_ret (v:= .tuple #[θ #[μ (decide (128<=g)),υ GM,φ sq,ω st,ω sc,δ os ns cs,FH,φ P7,δ oe ne ce,δ op np cp],ι 0]) ?rr2 rfl ?_;(case rr2=>(simp[results,results16,go_sem,r0,r1,r2,r3,r4,r5,r6,r7,r8,r9])))
      rw[<-HQ2.o]
      refine⟨δ os ns cs,δ oe ne ce,δ op np cp,rfl, ?_,mf,λb hb=>(by
       have:=HE.o.n0;have:=HE.o.n1;have:=HE.o.nR;have:=HE.o.n5;rcases hb with e | e | e
       ·have:=jG HE.o.rs e;omega
       ·have:=jG HE.o.re e;omega
       ·have:=jG HE.o.rp e;omega)⟩
      have:=HE.o.n1;have:=HE.o.nR;have:=HE.o.n5;exact⟨SlI.of_owns (xC HE.o.rs aw (λk hk=>by omega)) (kP HE.o.rs),SlI.of_owns (xC HE.o.re aw (λk hk=>by omega)) (kP HE.o.re),SlI.of_owns (xC HE.o.rp aw (λk hk=>by omega)) (kP HE.o.rp)⟩
     ·have hq:=HQ.o;rw[ώ h0] at hq;have HQ2:=κ hq;have h0b:(PE != 0)=ό:=by simpa using h0
      clear hq HQ HP3
      go_wp2_with (go_at_call 59;(go_call yT HE.o.rd as e wh ⟨rfl,rfl⟩;rw[HEV.o]))
      obtain⟨WF,hWF,mf,aw,r0,r1,r2,r3,r4,r5,r6,r7,r8,r9⟩:=WD HE.o.more (ϕ _) HE.o.br (μ ύ) (υ 0) (φ 0) (ω 0) (ω 0) (δ ϋ 0 0) (μ ύ) (φ 0) (δ ϋ 0 0) (δ ϋ 0 0);clear g0 g1 g2 g3 g4 g5 g6 g7 g8 g9 k0 k1 k2 k3 k4 k5 k6 k7 k8 k9 y0 y1 y2 y3 y4 y5 y6 y7 y8 y9;rw[hWF];clear hWF
      (refine bodyPost_ret (v:= .tuple #[Γc,ι PE]) ?rr3 rfl ?_;(case rr3=>(simp[results,results16,go_sem,r0,r1,r2,r3,r4,r5,r6,r7,r8,r9])))
      rw[<-HQ2.o];exact⟨δ ϋ 0 0,δ ϋ 0 0,δ ϋ 0 0,rfl,⟨SlI.nil _ _,SlI.nil _ _,SlI.nil _ _⟩,mf,VB⟩
def Ky (v:Value) (b:List Int) (w:World) (sl:SlI .u8 w v b) (hb:Byt b) (hl: ¬(200:Int)<b.length):Calls prog 16 #[v] w (Xq (jl b) w):=(Qd v b w sl hb hl).mono λ_ _ h=>h.post
def F9 (w:World) (R A room first:Nat) (c:List Value) (T:List (List Value)) (ab ac Y aa:Int) (css:List (List Value)) (h:qN 2 332 56 w R A room first (c::T) ab ac Y aa css):
  Calls prog 174 #[γ R] w λe w'=>e= .returned (.tuple #[θ c.toArray,ό])/\ql w w':=by
 have O:=κ h;have I:=h.ofHead;have J:c.toArray.size=2:=by simpa using I.1
 have ad:=h.fst;have aj:(first:Int)<(room:Int):=by have:=h.fst;omega
 have ak:0<=(first:Int):=by omega
 have ai:(((c::T).length:Int)==0)=ύ:=by simp;omega
 have af:(w.alloc (.cells Γs 56)).cell? ⟨R,2,ϋ⟩=ϊ (ι (c::T).length):=qm (qs h.ring _) 2 rfl;clear h
 go_enter func174,ntmps174
 go_wp2;obtain⟨W1,H⟩:=ν (w.alloc (.cells Γs 56));have N:Hid (ql w W1):=κ (by rw[<-H];exact ql.alloc _ _);have G:=κ (O.o.more N.o);have M:Hid (W1.heap[w.heap.size]? =ϊ (.cells Γs 56 (0,0))):=κ (by rw[<-H];exact qj w _);rw[H];clear H af;have ag: ∀x:qt W1,x.w'.cell? ⟨R,0,ϋ⟩=ϊ (δ (ϊ ⟨A,0,ϋ⟩) room room):=λx=>x.cell (qn G.o.ring) (qm G.o.ring 0 rfl)
 have ah: ∀x:qt W1,x.w'.cell? ⟨R,1,ϋ⟩=ϊ (ι first):=λx=>x.cell (qn G.o.ring) (qm G.o.ring 1 rfl)
 have U: ∀x:qt W1,x.w'.rangeAt A (first* 2) c:=λx=>by have:=(G.o.more x.h).range ad;rw[G.o.head] at this;exact this
 refine Qn W1 10 12 [10,11] ?_
 refine Qq9 ?_
 refine jh rfl rfl (qk ρ) 56 (.tmp 19) rfl A (first* 2) rfl c _ (λw' ae=>by obtain⟨x,rfl⟩:=ae;exact U x) underlying56 rfl (by rw[I.1];kernel_rfl) ?_;intro K d;go_simp;refine d _ ?_;clear d K;refine zY rfl rfl ζ ?_;intro K d;refine jr 56 (.tmp 2) (.tmp 20) rfl w.heap.size 56 _ c.toArray rfl rfl (qr M.o 1) (by rw[J];kernel_rfl) (by rw[J];rfl) (all_oneCell_toArray I.2) ?_;refine⟨trivial, ?_⟩;go_simp;refine d _ _ ?_;clear d K
 (refine Qe ?_;intro K d)
 refine d _ _ ?_;clear d K;refine qA ?_;go_wp2;refine bodyPost_ret (v:= .tuple #[θ c.toArray,ό]) (yo results174 _ _ w.heap.size 56 c.toArray _ _ rfl rfl (jY (qr M.o 1) _) underlying56 rfl (by rw[J];kernel_rfl)) rfl ?_;exact⟨rfl,(EC _ _ _).to_more (N.o.dr 1) (λk e=>by rw[e];exact ϕ _)⟩
def kX {t:Nat} (d:B=w.heap.size): ∀j u,cs.toList[j]? =ϊ u->(w.alloc (.cells cs t)).cell? ⟨B,j,ϋ⟩=ϊ u:=by
 intro j u h;subst d;exact qm (qj w _) j (by simpa using h)
def ZI (s:LnS) (h:KM s) (acc:Bool) (w:World):Calls prog 176 #[θ #[ι s.most,ι s.row,s.gone],acc] w λe w'=>e= .returned (.tuple #[θ #[ι s.most,ι (V2 s acc).1,μ (V2 s acc).2.1],μ (V2 s acc).2.2])/\ql w w':=by
 obtain⟨d,G,H,_,_⟩:=h;cases hg:s.gone with
 | true=>
  have e:V2 s acc=(s.row,ό,ύ):=by unfold V2;rw[ϐ hg]
  rw[e];exact UL s.most s.row acc w
 | false=>
  cases acc with
  | true=>
   have e:V2 s ό=(0,ύ,ύ):=by unfold V2;rw[ώ (by rw[hg];decide),ϐ rfl]
   rw[e];exact Pj s.most s.row w
  | false=>
   have e:V2 s ύ=(s.row+1,s.row+1==s.most,s.row+1==s.most):=by unfold V2;rw[ώ (by rw[hg];decide),ώ ζ]
   rw[e];exact BD s.most s.row τ τ _ _ rfl rfl w
def Vx (s:LnS) (h:KM s) (acc:Bool) (s':LnS) (e:s'.most=s.most/\s'.row=(V2 s acc).1/\s'.gone=(V2 s acc).2.1/\s'.rw=s.rw):KM s':=by
 obtain⟨M,N,J,O,U⟩:=h;obtain⟨d,G,H,I⟩:=e;unfold V2 at G H;refine⟨by rw[d];exact M, ?_, ?_,by rw[I];exact O,by rw[I];exact U⟩
 ·rw[d,G];cases hg:s.gone with
  | true=>simpa using N
  | false=>
   have:=J hg;cases acc<;>simp<;>omega
 ·rw[d,G,H];cases hg:s.gone with
  | true=>simp
  | false=>
   have:=J hg;cases acc<;>simp<;>omega
section
variable {N:Nat->Prop} {w w':World} {k:LnB} {vo:Value} {s s':LnS}
def Ze (h:LnX N w k vo s) (acc:Bool) (G:vC s 3=ύ):Calls prog 121 #[γ k.L,acc] w λe w'=>e= .returned (.tuple #[ι 0,ι 0,ύ])/\ql w w':=by
 have d:=Jy h;rw[G] at d;have d:=κ d;clear G h
 go_enter func121,ntmps121
 go_wp2_with (go_at_call 74;(go_call d.o as e w1 ⟨rfl,H⟩;have I:=κ H;clear H))
 refine bodyPost_ret (v:= .tuple #[ι 0,ι 0,ύ]) (by simp[results,results121,go_sem]) rfl ?_;exact⟨rfl,I.o⟩
def YN (h:LnX N w k vo s) (bg:s.W.length<=1000000) (o:Int×List Int) (T:List (Int×List Int)) (aB:s.C=o::T) (ae:Int) (g':Bool) (aC:V2 s ό=(ae,g',ύ)):
  Calls prog 121 #[γ k.L,ό] w λe w'=>e= .returned (.tuple #[ι o.1,ι 1,ό])/\ ∃vo',LnX (xf N w w') w' k vo' {s with C:=T,W:=s.W++[o],row:=ae,gone:=g'}/\jt N w w':=by
 have I:=κ h;have bD:=κ bg;have ag:=Jy h;have bj:vC s 3=ό:=by
  show decide (0<s.C.length)=ό;rw[aB];simp
 rw[bj] at ag;have ag:=κ ag;obtain⟨bd,cC,aU,aV,aS,aT,aW,ah,az⟩:=h.r3;rw[aB] at az;obtain⟨c,q,rfl,aA,aO⟩:=az.uncons;have AQ:=κ aO;have bt:=κ aA;obtain⟨v0,rfl,⟨U,O,rfl,bV⟩,bW,bX⟩:=aA.read;have bx:=κ ah;have cx:k.R3<w.heap.size:=qn ah.ring;have ct:k.A3<w.heap.size:=qn ah.row;have aJ:=κ h.dist;have aE:=ZI s h.ok ό;have bk:=Vx s h.ok ό {s with C:=T,W:=s.W++[o],row:=ae,gone:=g'} (by rw[aC];exact⟨rfl,rfl,rfl,rfl⟩);rw[aC] at aE;have bA:=κ aE;have bB:=κ bk;clear aE bk aC;clear h bj ah aA aO az bg aB bV bW bX
 go_enter func121,ntmps121
 go_wp2_with (first | (go_at_call 74;(go_call ag.o as e w1 ⟨rfl,an⟩;have bF:=κ an;have av:=κ (qq an I.o.blk);have aK:=κ (bx.o.more an);clear an;have cu:k.L<w1.heap.size:=qn av.o;have c3:w1.cell? ⟨k.L,3,ϋ⟩=ϊ (π (ϊ ⟨k.R3,0,ϋ⟩)):=qm av.o 3 rfl)) | (go_at_call 174;(go_call F9 w1 k.R3 k.A3 s.room bd _ q aU aV aS aT aW aK.o as e w2 ⟨rfl,ao⟩;have ay:Hid (ql w w2):=κ (bF.o.trans ao);have aw:=κ (qq ao av.o);have bw:=κ (aK.o.more ao);clear ao;have cv:k.L<w2.heap.size:=qn aw.o;have c3:w2.cell? ⟨k.L,3,ϋ⟩=ϊ (π (ϊ ⟨k.R3,0,ϋ⟩)):=qm aw.o 3 rfl)) | (go_at_call 175;(go_call Na (w2.alloc (.cells #[ι o.1,δ U o.2.length O] 56)) k.R3 k.A3 s.room bd _ q aU aV aS aT aW (bw.o.more W4) as e H ⟨rfl,⟨co,be⟩,a3⟩;have bz:=κ be;have A3:Hid (jt (RgB k.R3 k.A3) w H):=κ (((jt.of_more ay.o).alc _).trans a3);have aI:Hid (H.heap[k.L]? =ϊ (.cells (jQ k vo s) 153 (0,0))):=κ (a3.blk (qs aw.o _) (by obtain⟨⟨aX,aY,aZ,ba,bb,bc⟩,_⟩:=aJ.o;rintro(e | e)<;>omega));have aM:Hid (H.heap[w2.heap.size]? =ϊ (.cells #[ι o.1,δ U o.2.length O] 56 (0,0))):=κ (a3.blk (qj w2 _) (by have:=ay.o.size;rintro(e | e)<;>omega));clear be a3)))
 have al: ∀b,vo.ownBlock=ϊ b->N b/\ ¬k.muts b:=λb d=>I.o.vob d
 have bn: ∀b,vo.ownBlock=ϊ b->b<w.heap.size:=λb d=>I.o.own b (al b d).1
 have z3:w.heap.size<=H.heap.size:=A3.o.size;have cF:w.heap.size<=w2.heap.size:=ay.o.size;have bo: ¬vo.ownBlock=ϊ k.L:=λe=>(al _ e).2 (ϒ rfl)
 have bq: ¬vo.ownBlock=ϊ w2.heap.size:=λe=>by have:=bn _ e;omega
 have bC:=κ al;clear al bn;obtain⟨ce,hi,bZ,ca,cb⟩:=info_parts (P:=prog) (e:=56) (z:= Γs) (size:=2) (bytes:=32) ξ;have bE:=λ(x:qz (λb=>vo.ownBlock=ϊ b) H)=>β0 (x.h.blk aI.o bo)
 have aL: ∀x:qz (λb=>vo.ownBlock=ϊ b) H,x.w'.rangeAt w2.heap.size 0 [ι o.1,δ U o.2.length O]:=λx=>xy (x.h.blk aM.o bq)
 refine QN (λb=>vo.ownBlock=ϊ b) H 12 13 [7,8,9,10,12] ?_
 refine Qs6 ?_
 refine jh rfl rfl (qi σ) 56 (.tmp 7) rfl w2.heap.size 0 rfl [ι o.1,δ U o.2.length O] _ (λw' am=>by obtain⟨x,rfl⟩:=am;exact aL x) underlying56 rfl ξ ?_;intro K G;go_simp;refine G _ ?_;clear G K bE aL
 (refine Ql ?_;intro K G)
 refine⟨qi (((jt.refl _ H).drewN 1).alc _),G _ _ ?_⟩;clear G K;have aq:Hid (jt (RgB k.R3 k.A3) w ((H.drewN 1).alloc (.cells #[ι o.1,δ U o.2.length O] 56))):=κ ((A3.o.drewN 1).alc _);have ak: ∀b,RgB k.R3 k.A3 b->k.muts b:=λb d=>ϔ (ϔ (ϔ d))
 have bs:=(I.o.o.step (aq.o.mono λb d _=>ak b d)).widen (D':=λb=>(N b∨w.heap.size<=b)->k.muts b) (λb d=>ϒ λJ=>d (ϒ J));have br:jw ROu (λb=>((N b∨w.heap.size<=b)->k.muts b)∨vo.ownBlock=ϊ b) ((H.drewN 1).alloc (.cells #[ι o.1,δ U o.2.length O] 56)) [ι o.1,δ U o.2.length O] o:=(bt.o.step (aq.o.mono λb d=>kZ (ak b d))).other λb d=>by
  rcases d with e | e
  ·exact ϒ (ϒ λJ=>e (ϒ J))
  ·exact ϒ (ϔ e)
 refine jR rfl rfl ?_;intro K G
 refine zK (.tmp 35) (.tmp 37) 53 rfl 0 56 ce (Γs) 2 32 underlying53 hi bZ ca cb rfl ζ vo s.W rfl bs H.heap.size [ι o.1,δ U o.2.length O] o rfl rfl (kX rfl) W5 br (λb d=>by
  by_cases am:b<w.heap.size
  ·have:=aq.o.size;omega
  ·have:=I.o.own b (I.o.muts b (d (ϔ τ)));omega) ζ (by have:=bD.o;omega) (Ψ _) ?_
 intro cD w6 aD bi bh;have bH:=κ aD;have bI:=κ bh;have Y:Hid (jt (λb=>vo.ownBlock=ϊ b) H w6):=κ ((((jt.refl _ H).drewN 1).alc _).trans (jt.of_grown bi));have ax:=κ (Y.o.blk aI.o bo);have bJ:=κ (Y.o.blk aM.o bq);obtain⟨ad,ab,aa,rfl,bS,bT⟩:=aD.shape;clear aD bi bh bs br bS bT;have bL:w6.cell? ⟨k.L,0,ϋ⟩=ϊ vo:=qm ax.o 0 rfl;have bO:w6.frozen? ⟨k.L,0,ϋ⟩=ύ:=yw ax.o 0;refine⟨qi Y.o,G _ _ ?_⟩;clear G K;go_simp
 (refine Ql ?_;intro K G)
 refine⟨qi Y.o,G _ _ ?_⟩;clear G K
 (refine Ql ?_;intro K G)
 refine⟨qi Y.o,G _ _ ?_⟩;clear G K
 iterate 1 (refine qE rfl rfl (qi Y.o) ?_;intro K G;go_big_quiet_op;go_big_quiet_on)
 (refine Qe ?_;intro K G)
 refine G _ _ ?_;clear G K;refine qA ?_;obtain⟨W7,ai⟩:=ν (w6.setCell ⟨k.L,0,ϋ⟩ (δ ad ab aa));have aG:Hid (jt (λb=>b=k.L) w6 W7):=κ (by rw[<-ai];exact(jt.refl (λb=>b=k.L) w6).set (p:=⟨k.L,0,ϋ⟩) rfl _);have bp: ¬w2.heap.size=k.L:=by omega
 have af:Hid (W7.heap[k.L]? =ϊ (.cells (jQ k (δ ad ab aa) s) 153 (0,0))):=κ (by rw[<-ai];exact qB (qp ax.o 0 _) rfl);have bK:=κ (aG.o.blk bJ.o bp);rw[ai];clear ai bL bO;have aP:W7.cell? ⟨k.L,13,ϋ⟩=ϊ (ι s.most):=qm af.o 13 rfl;have aQ:W7.cell? ⟨k.L,14,ϋ⟩=ϊ (ι s.row):=qm af.o 14 rfl;have aR:W7.cell? ⟨k.L,15,ϋ⟩=ϊ (μ s.gone):=qm af.o 15 rfl;have bp: ¬w2.heap.size=k.L:=by omega
 go_wp2_with (go_at_call 176;(go_call bA.o _ as e w8 ⟨rfl,ap⟩;have bG:=κ ap;have M:=κ (qq ap af.o);have aN:=κ (qq ap bK.o);clear ap;have cw:k.L<w8.heap.size:=qn M.o;have cy:w2.heap.size<w8.heap.size:=qn aN.o;have cE:w8.cell? ⟨w2.heap.size,0,ϋ⟩=ϊ (ι o.1):=qm aN.o 0 rfl;have aP:w8.cell? ⟨k.L,13,ϋ⟩=ϊ (ι s.most):=qm M.o 13 rfl;have aQ:w8.cell? ⟨k.L,14,ϋ⟩=ϊ (ι s.row):=qm M.o 14 rfl;have aR:w8.cell? ⟨k.L,15,ϋ⟩=ϊ (μ s.gone):=qm M.o 15 rfl;have bP:w8.frozen? ⟨k.L,13,ϋ⟩=ύ:=yw M.o 13;have bQ:w8.frozen? ⟨k.L,14,ϋ⟩=ύ:=yw M.o 14;have bR:w8.frozen? ⟨k.L,15,ϋ⟩=ύ:=yw M.o 15))
 refine bodyPost_ret (v:= .tuple #[ι o.1,ι 1,ό]) (by simp[results,results121,go_sem]) rfl ?_;obtain⟨WF,aj⟩:=ν ((((w8.setCell ⟨k.L,13,ϋ⟩ (ι s.most)).setCell ⟨k.L,14,ϋ⟩ (ι ae)).setCell ⟨k.L,15,ϋ⟩ (μ g')).alloc (.cells #[ι s.most,ι ae,g'] 151));have bu:jt (λb=>b=k.L) w8 WF:=by rw[<-aj];exact((((jt.refl (λb=>b=k.L) w8).set (p:=⟨k.L,13,ϋ⟩) rfl _).set (p:=⟨k.L,14,ϋ⟩) rfl _).set (p:=⟨k.L,15,ϋ⟩) rfl _).alc _
 have bv:WF.heap[k.L]? =ϊ (.cells (jQ k (δ ad ab aa) {s with C:=T,W:=s.W++[o],row:=ae,gone:=g'}) 153 (0,0)):=by rw[<-aj];exact qs (qB (qp (qp (qp M.o 13 _) 14 _) 15 _) rfl) _
 rw[aj];clear aj aP aQ aR bP bQ bR;have aH:jt (λb=>b=k.L) w6 WF:=(aG.o.more bG.o).trans bu;have aF:jt (λb=>b=k.L∨vo.ownBlock=ϊ b) H WF:=(Y.o.mono λb d=>ϔ d).trans (aH.mono λb d=>ϒ d);have au:jt (λb=>(b=k.L∨vo.ownBlock=ϊ b)∨RgB k.R3 k.A3 b) w WF:=(A3.o.mono λb d=>ϔ d).trans (aF.mono λb d=>ϒ d);obtain⟨⟨aX,aY,aZ,ba,bb,bc⟩,⟨cp,cq,cr,bM,bN⟩,⟨cz,cA,cc,cd⟩,⟨cB,cf,cg⟩,⟨ch,ci⟩,_⟩:=aJ.o;have ac: ∀b,k.muts b-> ¬vo.ownBlock=ϊ b:=λb d e=>(bC.o _ e).2 d
 have ar:jt (lnM k vo) w WF:=au.mono λb d=>by
  rcases d with (e | e) | e
  ·exact ϒ (ϒ e)
  ·exact ϔ e
  ·exact ϒ (ak b e)
 have bm: ∀b,(δ ad ab aa).ownBlock=ϊ b->vo.ownBlock=ϊ b∨w.heap.size<=b:=λb d=>by
  rcases bI.o with e | e
  ·exact ϒ (by rw[<-e];exact d)
  ·rw[d] at e;injection e with e
   subst e;exact ϔ (by have:=z3;simp;omega)
 have bf: ∀b,((b=k.L∨vo.ownBlock=ϊ b)∨RgB k.R3 k.A3 b)->lnE N k vo b:=λb d=>by
  rcases d with (e | e) | e
  ·exact kZ (ϒ e)
  ·exact ϔ e
  ·exact kZ (ak b e)
 have bl: ∀b,lnE (xf N w WF) k (δ ad ab aa) b->lnE N k vo b∨WF.heap.size<=b:=λb d=>ϒ (xE I.o.own bm d)
 have bU:je 2 ROu (lnD (xf N w WF) k) WF 0 56 (δ ad ab aa) (s.W++[o]):=(bH.o.step (aH.mono λb d _=>ϒ d)).widen λb d=>by
  by_cases am:b<WF.heap.size
  ·refine ϒ λJ=>d ?_
   rcases J with J | J
   ·exact ϒ J
   ·exact ϔ ⟨J,am⟩
  ·exact ϔ τ
 have cj: ¬k.R1=k.L:=C0 aX;have n2: ¬k.A1=k.L:=C0 aY;have ck: ¬k.R2=k.L:=C0 aZ;have cl: ¬k.A2=k.L:=C0 ba;have cm: ¬k.R3=k.L:=C0 bb;have cn: ¬k.A3=k.L:=C0 bc;refine⟨rfl,_,I.o.make ar.size bv (I.o.r1.step au ?_ ?_ bf bl) (I.o.r2.step au ?_ ?_ bf bl) ⟨_,_,_,_,_,_,_,bz.o.away aF ?_ ?_,AQ.o.mono λc y bY=>I.o.held bY ar bm⟩ bU bB.o,ar.mono λb d=>I.o.inN d⟩
 ·rintro((e | e) | (e | e));exact cj e;exact ac _ (ϔ (ϒ (ϒ rfl))) e;exact bM e;exact bN e
 ·rintro((e | e) | (e | e));exact n2 e;exact ac _ (ϔ (ϒ (ϔ rfl))) e;exact cc e;exact cd e
 ·rintro((e | e) | (e | e));exact ck e;exact ac _ (ϔ (ϔ (ϒ (ϒ rfl)))) e;exact cf e;exact cg e
 ·rintro((e | e) | (e | e));exact cl e;exact ac _ (ϔ (ϔ (ϒ (ϔ rfl)))) e;exact ch e;exact ci e
 ·rintro(e | e);exact cm e;exact ac _ (ϔ (ϔ (ϔ (ϒ rfl)))) e
 ·rintro(e | e);exact cn e;exact ac _ (ϔ (ϔ (ϔ (ϔ rfl)))) e
def DF (s:LnS) (j:Nat):LnS:={s with A:=if 1<j then [] else s.A,B:=if 2<j then [] else s.B,C:=if 3<j then [] else s.C}
def PU (s:LnS) (j:Nat) (h:1<=j/\j<=3):vh (DF s j) j=DF s (j+1):=by
 obtain⟨d,G⟩:=h
 match j,d,G with
 | 1,_,_=>rfl
 | 2,_,_=>rfl
 | 3,_,_=>rfl
def wA (h:LnX N w k vo s) (bb:s.W.length<=1000000) (o:Int×List Int) (T:List (Int×List Int)) (ak:s.C=o::T) (H:Int) (g':Bool) (z:Bool) (am:V2 s ύ=(H,g',z)):
  Calls prog 121 #[γ k.L,ύ] w λe w'=>e= .returned (.tuple #[ι o.1,ι (if z then 7 else 0),ό])/\LnX (xf N w w') w' k vo (if z then DF {s with row:=H,gone:=g'} 4 else {s with row:=H,gone:=g'})/\jt N w w':=by
 have G:=κ h;have U:=Jy h;have aD:vC s 3=ό:=by
  show decide (0<s.C.length)=ό;rw[ak];simp
 rw[aD] at U;have U:=κ U;obtain⟨aX,br,aU,aV,aS,aT,aW,aB,ai⟩:=h.r3;rw[ak] at ai;obtain⟨c,q,rfl,aj,aR⟩:=ai.uncons;have bj:=κ aj;obtain⟨v0,rfl,⟨aG,aA,rfl,be⟩,bf,bg⟩:=aj.read;have aI:=κ aB;have an:=ZI s h.ok ύ;have aE:=Vx s h.ok ύ {s with row:=H,gone:=g'} (by rw[am];exact⟨rfl,rfl,rfl,rfl⟩);rw[am] at an;have aK:=κ an;have au:=κ aE;clear an aE am;clear h aD aB aj aR ai bb ak be bf bg
 go_enter func121,ntmps121
 cases z
 all_goals
  go_wp2_with (first | (go_at_call 74;(go_call U.o as e w1 ⟨rfl,ac⟩;have aN:=κ ac;have ag:=κ (qq ac G.o.blk);have ar:=κ (aI.o.more ac);clear ac;have bl:k.L<w1.heap.size:=qn ag.o;have c3:w1.cell? ⟨k.L,3,ϋ⟩=ϊ (π (ϊ ⟨k.R3,0,ϋ⟩)):=qm ag.o 3 rfl)) | (go_at_call 174;(go_call F9 w1 k.R3 k.A3 s.room aX _ q aU aV aS aT aW ar.o as e w2 ⟨rfl,ad⟩;have aw:Hid (ql w w2):=κ (aN.o.trans ad);have I:=κ (qq ad ag.o);have bk:=κ (ar.o.more ad);clear ad;have bm:k.L<w2.heap.size:=qn I.o;have c3:w2.cell? ⟨k.L,3,ϋ⟩=ϊ (π (ϊ ⟨k.R3,0,ϋ⟩)):=qm I.o 3 rfl;have ax:w2.cell? ⟨k.L,13,ϋ⟩=ϊ (ι s.most):=qm I.o 13 rfl;have ay:w2.cell? ⟨k.L,14,ϋ⟩=ϊ (ι s.row):=qm I.o 14 rfl;have az:w2.cell? ⟨k.L,15,ϋ⟩=ϊ (μ s.gone):=qm I.o 15 rfl)) | (go_at_call 176;(go_call aK.o (w2.alloc (.cells #[ι o.1,δ aG o.2.length aA] 56)) as e w8 ⟨rfl,ae⟩;have aO:Hid (ql w w8):=κ ((aw.o.al _).trans ae);have d:=κ (qq ae (qs I.o _));have Y:=κ (qq ae (qj w2 (.cells #[ι o.1,δ aG o.2.length aA] 56)));clear ae;have bn:k.L<w8.heap.size:=qn d.o;have bo:w2.heap.size<w8.heap.size:=qn Y.o;have bs:w.heap.size<=w2.heap.size:=aw.o.size;have bi: ¬w2.heap.size=k.L:=τ;have aH:w8.cell? ⟨w2.heap.size,0,ϋ⟩=ϊ (ι o.1):=qm Y.o 0 rfl;have ax:w8.cell? ⟨k.L,13,ϋ⟩=ϊ (ι s.most):=qm d.o 13 rfl;have ay:w8.cell? ⟨k.L,14,ϋ⟩=ϊ (ι s.row):=qm d.o 14 rfl;have az:w8.cell? ⟨k.L,15,ϋ⟩=ϊ (μ s.gone):=qm d.o 15 rfl;have aY:w8.frozen? ⟨k.L,13,ϋ⟩=ύ:=yw d.o 13;have aZ:w8.frozen? ⟨k.L,14,ϋ⟩=ύ:=yw d.o 14;have ba:w8.frozen? ⟨k.L,15,ϋ⟩=ύ:=yw d.o 15)))
  obtain⟨WF,aa⟩:=ν ((((w8.setCell ⟨k.L,13,ϋ⟩ (ι s.most)).setCell ⟨k.L,14,ϋ⟩ (ι H)).setCell ⟨k.L,15,ϋ⟩ (μ g')).alloc (.cells #[ι s.most,ι H,g'] 151));have af:jt (λb=>b=k.L) w8 WF:=by rw[<-aa];exact((((jt.refl (λb=>b=k.L) w8).set (p:=⟨k.L,13,ϋ⟩) rfl _).set (p:=⟨k.L,14,ϋ⟩) rfl _).set (p:=⟨k.L,15,ϋ⟩) rfl _).alc _
  have ah:WF.heap[k.L]? =ϊ (.cells (jQ k vo {s with row:=H,gone:=g'}) 153 (0,0)):=by rw[<-aa];exact qs (qB (qp (qp (qp d.o 13 _) 14 _) 15 _) rfl) _
  rw[aa];clear aa ax ay az aY aZ ba;have J:jt (λb=>b=k.L) w WF:=(jt.of_more aO.o).trans af
 ·refine bodyPost_ret (v:= .tuple #[ι o.1,ι 0,ό]) (by simp[results,results121,go_sem]) rfl ?_;exact⟨rfl,G.o.setL J ah ⟨rfl,rfl,rfl,rfl,rfl⟩ au.o,J.mono λb M=>by rw[M];exact G.o.muts _ (ϒ rfl)⟩
 ·have aM:=κ (G.o.setL J ah ⟨rfl,rfl,rfl,rfl,rfl⟩ au.o);have ap:=κ J;have aP:=κ (af.blk Y.o bi);have bd: ¬k.muts w2.heap.size:=λe=>by have:=G.o.own _ (G.o.muts _ e);omega
  clear J af ah d Y aH
  go_loopw [12] (λt wr=> ∃j:Nat,1<=j/\j<=4/\t= ι j/\LnX (xf N w wr) wr k vo (DF {s with row:=H,gone:=g'} j)/\jt k.muts WF wr) (λt _=>4-(intOf t).toNat)
  case atStart=>exact⟨1,τ,τ,rfl,aM.o,jt.refl _ _⟩
  case round=>
   obtain⟨j,bc,bp,rfl,aC,ab⟩:=hrel;have av:=κ aC;have aq:=κ ab;have bh:Hid (w.heap.size<=wr.heap.size):=κ (Ϙ ap.o.size ab.size);have aQ:=κ (ab.blk aP.o bd);have aH:wr.cell? ⟨w2.heap.size,0,ϋ⟩=ϊ (ι o.1):=qm aQ.o 0 rfl;clear aC ab;by_cases hlt:j<=3
   ·have bq:(j:Int)<=3:=by omega
    have aF:(j:Int)=1∨(j:Int)=2∨(j:Int)=3:=by omega
    have aJ:=κ (Cm av.o j aF);clear aF
    go_wp2_with (go_at_call 126;(go_call aJ.o as e w9 ⟨⟨v9,rfl⟩,O,a9⟩;have aL:=κ O;have ao:=κ a9;clear O a9))
    go_roundw
    case rel=>
     have O:=aL.o;rw[Wl bh.o ao.o.size,PU _ j ⟨bc,hlt⟩] at O;exact⟨j+1,τ,τ,by go_num,O,aq.o.trans ao.o⟩
    case measure=>simp[intOf];omega
   ·obtain rfl:j=4:=by omega
    go_wp2;refine bodyPost_ret (v:= .tuple #[ι o.1,ι 7,ό]) (by simp[results,results121,go_sem]) rfl ?_;exact⟨rfl,av.o,(ap.o.mono λb M=>by rw[M];exact G.o.muts _ (ϒ rfl)).trans (aq.o.mono λb M=>G.o.muts b M)⟩
def Ar (h:LnX N w k vo s) (I:s.W.length<=1000000) (acc:Bool):Calls prog 121 #[γ k.L,acc] w λe w'=>e= .returned (.tuple #[ι (qX s acc).2.1,ι (qX s acc).2.2.1,μ (qX s acc).2.2.2])/\ ∃vo',LnX (xf N w w') w' k vo' (qX s acc).1/\jt N w w':=by
 cases hC:s.C with
 | nil=>
  have e:qX s acc=(s,0,0,ύ):=by unfold qX;rw[hC]
  rw[e];refine(Ze h acc (by show decide (0<s.C.length)=ύ;rw[hC];rfl)).mono ?_;rintro e w' ⟨rfl,m⟩;exact⟨rfl,vo,h.grow m,jt.of_more m⟩
 | cons o T=>
  rcases ho:V2 s acc with ⟨d,g',b⟩
  cases b with
  | true=>
   have J:acc=ύ:=by
    cases acc with
    | false=>rfl
    | true=>
     unfold V2 at ho;split at ho<;>simp at ho
   subst J;have e:qX s ύ=(DF {s with row:=d,gone:=g'} 4,o.1,7,ό):=by unfold qX;rw[hC];simp only[ho];rfl
   rw[e];refine(wA h I o T hC d g' ό ho).mono ?_;rintro e w' ⟨rfl,G,H⟩;exact⟨rfl,vo,G,H⟩
  | false=>
   cases acc with
   | true=>
    have e:qX s ό=({s with C:=T,W:=s.W++[o],row:=d,gone:=g'},o.1,1,ό):=by unfold qX;rw[hC];simp only[ho];rfl
    rw[e];exact YN h I o T hC d g' ho
   | false=>
    have e:qX s ύ=({s with row:=d,gone:=g'},o.1,0,ό):=by unfold qX;rw[hC];simp only[ho];simp[hC]
    rw[e];refine(wA h I o T hC d g' ύ ho).mono ?_;rintro e w' ⟨rfl,G,H⟩;exact⟨rfl,vo,G,H⟩
end
def QZ (d:α) (p:Nat->α->Prop): ∀m,(∀i,i<m-> ∃c,p i c)-> ∃l:List α,l.length=m/\ ∀i,i<m->p i (l.getD i d)
 | 0,_=>⟨[],rfl,λi hi=>ϩ hi τ⟩
 | m+1,h=>by
  obtain⟨l,G,I⟩:=QZ d p m λi hi=>h i τ
  obtain⟨c,H⟩:=h m τ;refine⟨l++[c],by simp[G],λi hi=> ?_⟩;by_cases e:i<m
  ·have:=I i e;rw[ϑ] at this ⊢;rw[ϻ τ];exact this
  ·obtain rfl:i=m:=by omega
   rw[ϑ,Ϻ τ,G]
   simpa using H
def Q0: ∀(css:List (List Value)),(∀c∈css,c.length=n)->css.flatten.length=css.length* n
 | [],_=>by simp
 | c::css,h=>by
  rw[C9,Ϗ,Q0 css λd G=>h d (by simp[G]),h c η,ϙ,G0];omega
def Ox: ∀(css:List (List Value)) (i j:Nat),(∀c∈css,c.length=n)->i<css.length->j<n->css.flatten[i* n+j]? =(css.getD i [])[j]?
 | [],_,_,_,h,_=>ϩ h η
 | c::css,0,j,hl,_,hj=>by
  have:=hl c η;rw[C9,M6,D8,ϻ τ];rfl
 | c::css,i+1,j,hl,hi,hj=>by
  have d:=hl c η;rw[C9,Ϻ (by rw[d,G0];omega),d,show (i+1)* n+j-n=i* n+j by rw[G0];omega];exact Ox css i j (λG H=>hl G (by simp[H])) (by simpa using hi) hj
def ym {P:Program} (Y w:World) {ops:Array Oper} {rest:List Oper} {o:Oper} {a:Act} {Q:Exit->Act->World->Prop} (an:o.guard=ϋ) (s x:Operand) (t:TypeId)
  (aq:o.op= .call {callee:= .builtin .append,args:= #[s,x],argTypes:= #[t,t]})
  (base:Nat) (e:TypeId) (i:TypeInfo) (z:Value) (n bytes:Nat) (av:P.underlying t=ϊ (.slice e)) (hi:P.info? e=ϊ i) (aW:i.zero=ϊ z)
  (aS:i.size=n) (aG:i.bytes=bytes) (aX:z.cells.size=n) (aj:0<n)
  {R:qL α} (aE:QQ R) (aR: ∀w cs y,R w cs y-> ∀u∈cs,u.oneCell'=ό)
  (v:Value) (L:List α) (U:a.eval s=v) (ar:je n R (λ_=>False) w base e v L)
  (ax:Value) (d:List α) (aw:a.eval x=ax) (aM:SlP n R Y ax d) (ap:ql Y w) (aV: ∀b,v.ownBlock=ϊ b->Y.heap.size<=b)
  (ba:1<=bytes) (aH:(L.length+d.length)* bytes<=140737488355328) (aF:base<=w.heap.size)
  (h: ∀v' w',je n R (λ_=>False) w' base e v' (L++d)->w.grownBy w' v.ownBlock->(v'.ownBlock=v.ownBlock∨v'.ownBlock=ϊ w.heap.size)->wpList P ops Q rest (a.put o.dst v') w'):wpList P ops Q (o::rest) a w:=by
 have aD:L.length+d.length<=maxLen:=by
  have:=J0 (L.length+d.length) (show 0<bytes by omega);unfold maxLen;omega
 obtain⟨aY,cap,rfl,bc,aN,bd,be,aO⟩:=aM;obtain⟨⟨xs,ae,aK⟩,aZ⟩:=id ar;cases aY with
 | none=>
  have ah:cap=0:=aO rfl;subst ah;have aP:d=[]:=Ϧ τ;subst aP;refine wpList_append_own_none an s x t aq base e i n av hi v L.length xs U ae aw ?_;exact h v w (by simpa using ar) ⟨rfl,rfl,rfl,ϕ _,λ_ _ _=>rfl⟩ (ϒ rfl)
 | some ad=>
  obtain⟨css,aJ,af⟩:=QZ ([]:List Value) (λk cs=> ∀G:k<d.length,∃b I,ad=⟨b,I,ϋ⟩/\b<Y.heap.size/\cs.length=n/\(∀j,j<n->Y.cell? ⟨b,I+k* n+j,ϋ⟩=cs[j]?)/\R Y cs d[k]) d.length (λk G=>by
   obtain⟨b,I,cs,ay,aB,aa,aC,N⟩:=aN k G
   exact⟨cs,λ_=>⟨b,I,by injection ay,aB,aa,aC,N⟩⟩)
  have ao: ∀c∈css,c.length=n:=λc ac=>by
   obtain⟨k,G,rfl⟩:=A4.1 ac;obtain⟨_,_,_,_,aa,_⟩:=af k τ τ;rw[ϑ,ϖ G] at aa;exact aa
  have am:css.flatten.length=d.length* n:=by rw[Q0 css ao,aJ]
  have al: ∀k j,k<d.length->j<n->css.flatten[k* n+j]? =(css.getD k [])[j]? :=λk j G M=>Ox css k j ao τ M
  refine wpList_append_own_at w an s x t aq base e i z n bytes av hi aW aS aG aX aj v L.length xs U ae ad d.length cap css.flatten aw am ?_ ?_ aD aH aF ?_
  ·intro j u M;have aL:j<d.length* n:=by rw[<-am];exact(Ϛ.1 M).1
   have ak:j/n<d.length:=by rw[R8 aj];exact aL
   have au:j%n<n:=I6 _ aj;have aA:j/n* n+j%n=j:=by rw[Nat.mul_comm];exact Nat.div_add_mod j n
   obtain⟨b,I,rfl,H,_,ac,_⟩:=af _ ak ak;have az:(⟨b,I,ϋ⟩:Addr).add j=⟨b,I+j,ϋ⟩:=by
    unfold Addr.add;split
    ·rename_i ah;subst ah;rfl
    ·rfl
   rw[az,ap.cells b _ H,show I+j=I+j/n* n+j%n by omega,ac _ au,<-al _ _ ak au,aA];exact M
  ·intro u aT;obtain⟨c,ac,aU⟩:=List.mem_flatten.1 aT;obtain⟨k,G,rfl⟩:=A4.1 ac;obtain⟨_,_,_,_,_,_,N⟩:=af k τ τ;rw[ϑ,ϖ G] at N;exact aR _ _ _ N u aU
  ·intro v' w' aQ J _ O;have aI: ∀k (G:k<(L++d).length),jw R (λk=>False∨v.ownBlock=ϊ k) w (((xs++css.flatten).drop (k* n)).take n) (L++d)[k]:=by
    intro k G;rw[Ϗ] at G;by_cases e:k<L.length
    ·have bb:k* n+n<=L.length* n:=by
      have:(k+1)* n<=L.length* n:=A7 n e;rw[G0,N0] at this;exact this
     have bf:=ae.1;have ag:((xs++css.flatten).drop (k* n)).take n=(xs.drop (k* n)).take n:=by
      rw[G1 τ,G2 (by rw[ϣ];omega)]
     rw[ag,M2 e];exact aK k e
    ·have ai:k-L.length<d.length:=by omega
     obtain⟨_,_,_,_,aa,_,N⟩:=af _ ai ai;have ag:((xs++css.flatten).drop (k* n)).take n=css.getD (k-L.length) []:=by
      apply K0;intro j;rw[B3];split
      ·rename_i M;rw[D1,<-al _ _ ai M,Ϻ (by rw[ae.1];have:=A7 n (show L.length<=k by omega);omega),ae.1]
       congr 1
       rw[Nat.sub_mul];have:=A7 n (show L.length<=k by omega);omega
      ·rename_i M;exact(K5.2 τ).symm
     rw[ag,List.getElem_append_right τ];exact(jw.old aE N (λb H=>by rcases H with H | H;exact ϩ H id;exact aV b H)).on ap
   refine h v' w' ⟨⟨xs++css.flatten,by rw[Ϗ];exact aQ,λk G w'' a'=> ?_⟩,λ_ _=>id⟩ J O;refine aI k G w'' ⟨a'.os.trans J.os,a'.tape.trans J.tape,a'.output.trans J.output,Ϙ J.size a'.size,λb H U=> ?_⟩;rw[a'.block b (ϗ H J.size) ?_]
   ·exact J.block b H (λe=>U (ϔ e.symm))
   ·rintro(ab | ab)
    ·exact U (ϒ ab)
    ·rcases O with O | O
     ·exact U (ϔ (by rw[<-O];exact ab))
     ·rw[O] at ab;have:w.heap.size=b:=by injection ab
      omega
def Ip: ∀(w:World) (cs:List Value) (y:Int×List Int),ROu w cs y-> ∀u∈cs,u.oneCell'=ό:=by
 rintro w cs y ⟨v,rfl,⟨G,cap,rfl,_⟩,_⟩ u d;simp at d;rcases d with rfl | rfl<;>rfl
def ED (w:World):je 2 ROu (λ_=>False) (w.alloc (.cells #[] 56)) w.heap.size 56 (δ (ϊ ⟨w.heap.size,0,ϋ⟩) 0 0) []:=
 ⟨⟨[],by simpa using World.ownsRow_lit (e:=56) (size:=2) (base:=w.heap.size) w #[] 0 (ϕ _) (by unfold maxLen;omega) rfl,λi hi=>by simp at hi⟩,λ_ _ h=>h⟩
def Fu (v:Value) (l:List (Int×List Int)) (w:World) (h:SlP 2 ROu w v l) (H:l.length<=1000000):
  Calls prog 108 #[v] w λe w'=>(∃v',e= .returned v'/\je 2 ROu (λ_=>False) w' w.heap.size 56 v' l)/\ql w w':=by
 obtain⟨aj,hi,ag,ah,ai⟩:=info_parts (P:=prog) (e:=56) (z:= Γs) (size:=2) (bytes:=32) ξ;have I:=κ h;have ab:=κ H;obtain⟨ak,cap,rfl,J,M,N,O,d⟩:=h;cases ak with
 | none=>
  obtain rfl:cap=0:=d rfl;obtain rfl:l=[]:=Ϧ τ;clear I J M N O d H;have af:=λw=>Lib.run_eql_slice_nil (P:=prog) w 53 56 ϋ 0 0 0 0 underlying53
  go_enter func108,ntmps108
  go_wp2;go_ret;exact⟨⟨_,rfl,je.nil 2 ROu _ _ _ _⟩,ql.refl _⟩
 | some ad=>
  clear J M N O d H;have af:=λw=>Lib.run_eql_slice_nil (P:=prog) w 53 56 (ϊ ad) l.length cap 0 0 underlying53
  go_enter func108,ntmps108
  go_wp2_with (at_builtin;refine ym w _ rfl (.tmp 5) (.tmp 6) 53 rfl w.heap.size 56 aj (Γs) 2 32 underlying53 hi ag ah ai rfl ζ Ff Ip _ [] rfl (ED w) _ l rfl I.o W4 (λb G=>by cases G;exact ϕ _) ζ (by have:=ab.o;simp;omega) (ql.alloc w _).size ?_;intro al w2 Y U ae;have ac:=κ Y;have aa:Hid (jt (λb=>(δ (ϊ ⟨w.heap.size,0,ϋ⟩) 0 0).ownBlock=ϊ b) (w.alloc (.cells #[] 56)) w2):=κ (jt.of_grown U);clear Y U ae)
  go_ret;refine⟨⟨_,rfl,by simpa using ac.o⟩, ?_⟩;exact((jt.of_more (S:=λb=>b=w.heap.size) (ql.alloc w _)).trans (aa.o.mono λb G=>by injection G with e;exact e.symm)).to_more (ql.refl _) (λk e=>by rw[e];exact ϕ _)
def Bv {e m:Nat} (h:w.ownsRow base e n v m xs) (I:d<=base):w.ownsRow d e n v m xs:=by
 obtain⟨G,H⟩:=h;refine⟨G, ?_⟩;rcases H with h | ⟨g,cap,cur,e1,h3,h4⟩
 ·exact ϒ h
 ·exact ϔ ⟨g,cap,cur,e1,Ϙ I h3,h4⟩
def WP {S:Nat->Prop} {e m:Nat} (h:w.ownsRow base e n v m xs) (a:jt S w w') (H: ∀b,v.ownBlock=ϊ b-> ¬S b):w'.ownsRow base e n v m xs:=by
 obtain⟨d,G⟩:=h;refine⟨d, ?_⟩;rcases G with h | ⟨g,cap,cur,e1,h3,h4,h5⟩
 ·exact ϒ h
 ·exact ϔ ⟨g,cap,cur,e1,h3,a.blk h4 (H g (by rw[e1];rfl)),h5⟩
def zl (w0 w:World) (v:Value) (W:List (Int×List Int)) (j:Nat):Prop:=
 ∃xs,w.ownsRow w0.heap.size 56 2 v W.length xs/\ ∀i (hi:i<W.length),∃u,xs[i* 2]? =ϊ (.int .i64 (W[i].1))/\xs[i* 2+1]? =ϊ u/\
  (∀w',jt (λk=>v.ownBlock=ϊ k) w w'->SlI .u8 w' u (W[i].2))/\(Byt (W[i].2)/\W[i].2.length<=200)/\(i<j->(∀b,u.ownBlock=ϊ b->w0.heap.size<=b/\b<w.heap.size/\v.ownBlock≠ϊ b)/\w.ownsRow w0.heap.size 5 1 u (W[i].2).length ((W[i].2).map (Value.int .u8)))
def zl.start {D:Nat->Prop} (h:je 2 ROu D w H.heap.size 56 v W):zl H w v W 0:=by
 obtain⟨⟨xs,o,r⟩,_⟩:=h;refine⟨xs,o,λi hi=> ?_⟩;obtain⟨u,e,_,I,M⟩:=(r i hi).read;have e0:=ϯ (λl:List Value=>l[0]?) e;have G:=ϯ (λl:List Value=>l[1]?) e;simp at e0 G;refine⟨u,e0,G,λw' a=> ?_,⟨I,M⟩,λh=>ϩ h τ⟩;obtain⟨O,d,N,_⟩:=(r i hi) w' (a.mono λk J=>ϔ J);rw[e] at d;simp at d;rw[d];exact N
def zl.more (h:zl H w v W j) (m:ql w w'):zl H w' v W j:=by
 obtain⟨xs,o,r⟩:=h;refine⟨xs,zI o (S:=λ_=>False) (jt.of_more m) (λ_ _ h=>h),λi hi=> ?_⟩;obtain⟨u,I,J,M,N,d⟩:=r i hi;exact⟨u,I,J,λw'' a=>M w'' ((jt.of_more m).trans a),N,λh=>⟨λb G=>⟨((d h).1 b G).1,ϗ ((d h).1 b G).2.1 m.size,((d h).1 b G).2.2⟩,zI (d h).2 (S:=λ_=>False) (jt.of_more m) (λ_ _ h=>h)⟩⟩
def zl.shape {G:World} (h:zl G w v W j): ∃oa cap,v= δ oa W.length cap:=by
 obtain⟨xs,o,_⟩:=h;rcases o.2 with ⟨rfl,d⟩ | ⟨g,cap,cur,rfl,_⟩
 ·exact⟨ϋ,0,by rw[d]⟩
 ·exact⟨_,cap,rfl⟩
def zl.at {H:Option Addr} (h:zl I w (δ H n cap) W j) (U:n=W.length) (i:Nat) (hi:i<W.length):
  ∃g,H=ϊ ⟨g,0,ϋ⟩/\I.heap.size<=g/\g<w.heap.size/\ ∃u,w.cell? ⟨g,i* 2,ϋ⟩=ϊ (ι (W[i].1))/\w.cell? ⟨g,i* 2+1,ϋ⟩=ϊ u/\w.frozen? ⟨g,i* 2+1,ϋ⟩=ύ/\SlI .u8 w u (W[i].2)/\Byt (W[i].2)/\W[i].2.length<=200:=by
 subst U;obtain⟨xs,o,r⟩:=h;obtain⟨g,rfl,d,G⟩: ∃g,H=ϊ ⟨g,0,ϋ⟩/\I.heap.size<=g/\g<w.heap.size:=by
  rcases o.2 with ⟨_,Y⟩ | ⟨g,c,cur,e,d,G,_⟩
  ·omega
  ·injection e with e1
   exact⟨g,e1,d,lt_of_block G⟩
 obtain⟨u,J,M,N,O,_⟩:=r i hi;exact⟨g,rfl,d,G,u,by rw[o.cellAt _ τ];exact J,by rw[o.cellAt _ τ];exact M,o.frozenAt _,N w (jt.refl _ _),O⟩
def zl.put {J w1:World} {g:Nat} (h:zl J w (δ (ϊ ⟨g,0,ϋ⟩) n cap) W j) (ac:n=W.length) (aj:j<W.length) (m:ql w w1) (ai:g<w.heap.size) (N:J.heap.size<=w.heap.size) {u:Value}
  (G:w1.ownsRow w.heap.size 5 1 u (W[j].2).length ((W[j].2).map (Value.int .u8))):zl J (w1.setCell ⟨g,j* 2+1,ϋ⟩ u) (δ (ϊ ⟨g,0,ϋ⟩) n cap) W (j+1):=by
 subst ac;obtain⟨xs,o,r⟩:=h.more m;obtain⟨os,ad⟩:=o.stored (j* 2+1) u;have a:jt (λk=>ϊ g=ϊ k) w1 (w1.setCell ⟨g,j* 2+1,ϋ⟩ u):=jt.of_grown ad;have Y:(w1.setCell ⟨g,j* 2+1,ϋ⟩ u).heap.size=w1.heap.size:=by simp
 refine⟨_,os,λi hi=> ?_⟩;obtain⟨ah,O,aa,ab,U,I⟩:=r i hi;have al:xs.length=W.length* 2:=o.1;by_cases e:i=j
 ·subst e;refine⟨u,by rw[I5 τ];exact O,by rw[Q4 τ],λw' a'=> ?_,U,λ_=>⟨λb d=>⟨Ϙ N (vV G d),by rw[Y];exact Vg G d,λH=> ?_⟩,Bv (zI G a (λb d e=> ?_)) N⟩⟩
  ·exact(SlI.of_owns G τ).off (D:=λk=>ϊ g=ϊ k) (λb d H=>by have:=vV G d;have M:g=b:=M3 H;omega) (a.trans a')
  ·have:=vV G d;have M:g=b:=M3 H;omega
  ·have M:g=b:=M3 e;omega
 ·refine⟨ah,by rw[I5 τ];exact O,by rw[I5 τ];exact aa,λw' a'=>ab w' (a.trans a'),U,λak=>⟨λb d=> ?_,WP (I τ).2 a (λb d e=>((I τ).1 b d).2.2 e)⟩⟩;obtain⟨ae,af,ag⟩:=(I τ).1 b d;exact⟨ae,by rw[Y];exact af,ag⟩
def ROn (base:Nat):qL (Int×List Int):=λw cs o=> ∃v,cs=[.int .i64 o.1,v]/\SlI .u8 w v o.2/\Byt o.2/\o.2.length<=200/\(∀b,v.ownBlock=ϊ b->base<=b)/\w.ownsRow base 5 1 v o.2.length (o.2.map (Value.int .u8))
def zl.done (h:zl I w v W W.length):je 2 (ROn I.heap.size) (λb=>b<I.heap.size) w I.heap.size 56 v W:=by
 obtain⟨xs,o,r⟩:=h;refine⟨⟨xs,o,λi hi=> ?_⟩,λb G ac=>by have:=vV o G;omega⟩;obtain⟨u,N,O,U,M,H⟩:=r i hi;have Y:(xs.drop (i* 2)).take 2=[ι (W[i].1),u]:=by
  apply K0;intro k
  match k with
  | 0=>simpa using N
  | 1=>simpa using O
  | k+2=>
   rw[F3 (by rw[Ϡ];omega),F3 η]
 intro w' a;refine⟨u,Y, ?_,M.1,M.2,λb G=>((H hi).1 b G).1,WP (H hi).2 a (λb G d=> ?_)⟩
 ·refine(U w (jt.refl _ _)).off (λb G d=> ?_) a;obtain⟨aa,ab,J⟩:=(H hi).1 b G;rcases d with d | d
  ·omega
  ·exact J d
 ·obtain⟨aa,ab,J⟩:=(H hi).1 b G;rcases d with d | d
  ·omega
  ·exact J d
section
variable {N:Nat->Prop} {w w':World} {k:LnB} {vo:Value} {s:LnS}
def Ug (h:LnX N w k vo s) (aa:s.W.length<=1000000):Calls prog 48 #[γ k.L] w λe w'=>(∃v,e= .returned v/\je 2 (ROn w.heap.size) (λb=>b<w.heap.size) w' w.heap.size 56 v s.W)/\ql w w':=by
 have ay:w.cell? ⟨k.L,0,ϋ⟩=ϊ vo:=qm h.blk 0 rfl;have ag:=κ (Fu vo s.W w (h.o.sl ζ) aa);have az:(s.W.length:Int)<=9223372036854775807:=by omega
 clear h aa
 go_enter func48,ntmps48
 go_wp2_with (go_at_call 108;(go_call ag.o as e w1 ⟨⟨aG,rfl,O⟩,ae⟩;have al:=κ (zl.start O);have aj:=κ ae;obtain⟨au,cap,rfl⟩:=(zl.start O).shape;clear O ae))
 go_loopw [12] (λJ wr=> ∃j:Nat,j<=s.W.length/\J= ι j/\zl w wr (δ au s.W.length cap) s.W j/\ql w wr) (λJ _=>s.W.length-(intOf J).toNat)
 case atStart=>exact⟨0,τ,rfl,al.o,aj.o⟩
 case round=>
  obtain⟨j,aA,rfl,ad,ac⟩:=hrel;have d:=κ ad;have H:=κ ac;clear ad ac;by_cases hlt:j<s.W.length
  ·have aB:(j:Int)<(s.W.length:Int):=by omega
   obtain⟨g,rfl,ab,ao,u,aw,ax,aF,I,an,aq⟩:=d.o.at rfl j hlt;have U:=κ ao;have ai:=κ ab;have ah:=κ (wQ u _ wr I τ);have ar:w.heap.size<=wr.heap.size:=H.o.size;obtain⟨av,am,rfl,_⟩:=id I;clear I an aq ab aw
   go_wp2_with (go_at_call 50;(go_call ah.o as e af ⟨⟨v3,rfl,M⟩,G⟩;have ak:=κ M;have Y:=κ G;have aE:af.cell? ⟨g,j* 2+1,ϋ⟩=ϊ (δ av (s.W[j].2).length am):=(by rw[G.cells _ _ U.o];exact ax);have p2:af.frozen? ⟨g,j* 2+1,ϋ⟩=ύ:=((d.o.more G).at rfl j hlt |>.elim λg' ap=>by obtain⟨e,_,_,_,_,_,f,_⟩:=ap;injection e with e;injection e with e;subst e;exact f);obtain⟨aD,c4,rfl⟩:=zA M;clear M G))
   go_roundw
   case rel=>exact⟨j+1,τ,by go_num,d.o.put rfl hlt Y.o U.o ar ak.o,(H.o.trans Y.o).st ai.o _⟩
   case measure=>simp[intOf];omega
  ·obtain rfl:j=s.W.length:=by omega
   have aC: ¬(s.W.length:Int)<(s.W.length:Int):=by omega
   go_wp2;go_ret;exact⟨⟨_,rfl,d.o.done⟩,H.o⟩
end
section
variable {N:Nat->Prop} {w:World} {L:Nat} {s:LnS}
def JB (h:zw N w L s):Calls prog 69 #[γ L] w λe w'=>e= .returned (μ s.gone)/\ql w w':=by
 obtain⟨k,vo,rfl,x⟩:=h;exact gF x
def Iv (h:zw N w L s) (n:Int) (d:n=1∨n=2∨n=3):Calls prog 74 #[γ L,ι n] w λe w'=>e= .returned (μ (vC s n))/\ql w w':=by
 obtain⟨k,vo,rfl,x⟩:=h;rcases d with rfl | rfl | rfl
 ·exact YA x
 ·exact Yz x
 ·exact Jy x
def ES (h:zw N w L s):Calls prog 68 #[γ L] w λe w'=>e= .returned (θ #[ι s.A.length,ι s.B.length,ι s.C.length])/\ql w w':=by
 obtain⟨k,vo,rfl,x⟩:=h;exact ER x
def Xb (h:zw N w L s):Calls prog 67 #[γ L] w λe w'=>e= .returned (.tuple #[θ #[ι s.cur,ι s.tgt],s.wanted])/\ql w w':=by
 obtain⟨k,vo,rfl,x⟩:=h;exact AJ x
def Ed (h:zw N w L s) (n:Int):Calls prog 91 #[γ L,ι n] w λe w'=>e= .returned (ι (jO s n).2)/\zw (xf N w w') w' L (jO s n).1/\jt N w w':=by
 obtain⟨k,vo,rfl,x⟩:=h;refine(Ec x n).mono ?_;rintro e w' ⟨rfl,d,G⟩;exact⟨rfl,⟨k,vo,rfl,d⟩,G⟩
def Df (h:zw N w L s):Calls prog 137 #[γ L] w λe w'=>e= .returned (.tuple #[ι (jf s).2.1,ι (jf s).2.2.1,μ (jf s).2.2.2])/\zw (xf N w w') w' L (jf s).1/\jt N w w':=by
 obtain⟨k,vo,rfl,x⟩:=h;refine(De x).mono ?_;rintro e w' ⟨rfl,d,G⟩;exact⟨rfl,⟨k,vo,rfl,d⟩,G⟩
def Uv (h:zw N w L s):Calls prog 138 #[γ L] w λe w'=>e= .returned (.tuple #[ι (qY s).2.1,μ (qY s).2.2.1,μ (qY s).2.2.2])/\zw (xf N w w') w' L (qY s).1/\jt N w w':=by
 obtain⟨k,vo,rfl,x⟩:=h;refine(Uu x).mono ?_;rintro e w' ⟨rfl,d,G⟩;exact⟨rfl,⟨k,vo,rfl,d⟩,G⟩
def As (h:zw N w L s) (H:s.W.length<=1000000) (acc:Bool):Calls prog 121 #[γ L,acc] w λe w'=>e= .returned (.tuple #[ι (qX s acc).2.1,ι (qX s acc).2.2.1,μ (qX s acc).2.2.2])/\zw (xf N w w') w' L (qX s acc).1/\jt N w w':=by
 obtain⟨k,vo,rfl,x⟩:=h;refine(Ar x H acc).mono ?_;rintro e w' ⟨rfl,vo',d,G⟩;exact⟨rfl,⟨k,vo',rfl,d⟩,G⟩
def Ij (h:zw N w L s) (x:ItS) (os H I:Option Addr) (G ke d:Nat) (U:PkS w (δ os x.pk.ss.length G) (δ H x.pk.ex.length ke) (δ I x.pk.pl.length d) x.pk) (O:uf x.pk) (Y:uj x.pk):
  Calls prog 136 #[γ L,(Γj x os G H ke I d)] w λe w'=>e= .returned (.tuple #[ι (xp s x).2.1,μ (xp s x).2.2.1,ι (xp s x).2.2.2])/\zw (xf N w w') w' L (xp s x).1/\jt N w w':=by
 obtain⟨k,vo,rfl,aa⟩:=h;refine(Ii aa x os H I G ke d U O Y).mono ?_;rintro e w' ⟨rfl,J,M⟩;exact⟨rfl,⟨k,vo,rfl,J⟩,M⟩
def Uh (h:zw N w L s) (d:s.W.length<=1000000):Calls prog 48 #[γ L] w λe w'=>(∃v,e= .returned v/\je 2 (ROn w.heap.size) (λb=>b<w.heap.size) w' w.heap.size 56 v s.W)/\ql w w':=by
 obtain⟨k,vo,rfl,x⟩:=h;exact Ug x d
end
end Go.Proofs.YtlmllmonabafjaaGreatDoor
