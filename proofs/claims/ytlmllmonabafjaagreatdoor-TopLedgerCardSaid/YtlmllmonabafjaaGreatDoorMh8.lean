/- x -/
import Derived.Test.YtlmllmonabafjaaGreatDoorMh7
namespace Go.Proofs.YtlmllmonabafjaaGreatDoor
open Option renaming some->ϊ,none->ϋ
open Bool renaming true->ό,false->ύ
open Go.Value renaming bool->μ,slice->δ,pointer->π,agg->θ
open Go.IntKind renaming i64->ι,u8->υ,u16->φ,u32->ω,i32->χ,u64->ψ
open _root_.Go.Proofs.Tryz
set_option linter.all false
set_option maxHeartbeats 8000000
open Go.RowKit
set_option maxRecDepth 100000
variable {w w' I J:World} {s s':RdS} {cs Z:Array Value} {W:List (Int×List Int)} {t:Int} {v:Value} {Br hi R n B d j H base cap:Nat} {xs:List Value} {b l:List Int} {q:Pk} {α:Type}
structure PrS (w0 w:World) (R hi Br B5 B7 B8:Nat) (s:RdS) (t:Int) (cs:Array Value):Prop where
 rd:qu w R s.1 s.2 (λg=>g<hi)
 more:ql w0 w
 br:w.heap[Br]? =ϊ (.cells #[.bool ύ,.bool ύ,.int .u8 0,.int .i64 0,.bool ύ,.int .i64 0,.int .i64 0,.bool ύ,.int .i64 0] 366 (0,0))
 b5:w.heap[B5]? =ϊ (.cells #[.pointer (ϊ ⟨R,0,ϋ⟩)] 156 (0,0))
 b7:w.heap[B7]? =ϊ (.cells #[.int .u8 t] 5 (0,0))
 b8:w.heap[B8]? =ϊ (.cells cs 366 (0,0))
 n0:w0.heap.size<=Br
 nR:Br<R
 n1:R<hi
 n5:hi<=B5
 n7:B5<B7
 n8:B7<B8
def PrS.step {I:Nat} (h:PrS J w R hi Br d H I s t cs) (r:qu w' R s'.1 s'.2 (λg=>g<hi)) (a:jt (λb=>b=R) w w'):PrS J w' R hi Br d H I s' t cs:=by
 have:=h.n0;have:=h.nR;have:=h.n1;have:=h.n5;have:=h.n7;have:=h.n8;exact⟨r,jt.to_more h.more a (λk M=>by omega),a.blk h.br τ,a.blk h.b5 τ,a.blk h.b7 τ,a.blk h.b8 τ,h.n0,h.nR,h.n1,h.n5,h.n7,h.n8⟩
def PrS.on {I:Nat} (h:PrS J w R hi Br d H I s t cs) (m:ql w w'):PrS J w' R hi Br d H I s t cs:=
 ⟨h.rd.more m,h.more.trans m,qq m h.br,qq m h.b5,qq m h.b7,qq m h.b8,h.n0,h.nR,h.n1,h.n5,h.n7,h.n8⟩
def PrS.put8 {I:Nat} (h:PrS J w R hi Br H I d s t cs) (i:Nat) (v:Value):PrS J (w.setCell ⟨d,i,ϋ⟩ v) R hi Br H I d s t (cs.setIfInBounds i v):=by
 have:=h.n0;have:=h.nR;have:=h.n1;have:=h.n5;have:=h.n7;have:=h.n8;have a:jt (λb=>b=d) w (w.setCell ⟨d,i,ϋ⟩ v):=(jt.refl (λb=>b=d) w).set (p:=⟨d,i,ϋ⟩) rfl _;exact⟨h.rd.off a τ (λg M e=>by omega),h.more.st (p:=⟨d,i,ϋ⟩) (by show _<=d;omega) _,a.blk h.br τ,a.blk h.b5 τ,a.blk h.b7 τ,qp h.b8 i v,h.n0,h.nR,h.n1,h.n5,h.n7,h.n8⟩
def Zt (h:Byt s.1):0<=nB s/\nB s<=255:=by
 have:=zv (tkB s.1 1) 1 (jL h 1) (zh s.1 1 ζ) ζ;unfold nB;omega
def dC (f pic:Int) (wd:Bool) (bs tr:Int) (sy:Bool) (ky:Int):Array Value:= #[.bool (bit f 32),.bool (bit f 16),.int .u8 (f%8),.int .i64 pic,.bool wd,.int .i64 bs,.int .i64 tr,.bool sy,.int .i64 ky]
def PrQ (w0 w':World) (R hi Br B5 B7 B8 B10:Nat) (s:RdS) (t:Int) (cs:Array Value) (q:Int):Prop:=PrS w0 w' R hi Br B5 B7 B8 s t cs/\w'.heap[B10]? =ϊ (.cells #[.int .u64 q] 231 (0,0))
def CQ (s:RdS):Int:=if nB s<128 then nB s else (nB s-128)* 256+nB (tkS s 1)
def CS (s:RdS):RdS:=if nB s<128 then tkS s 1 else tkS (tkS s 1) 1
def CO (s:RdS):Bool:=decide (¬nB s<128)
def FK {ae:World} {M O N:Nat} {f:Int} (h:PrS ae w R hi Br M O N s t (dC f 0 ύ 0 0 ύ 0)):
  Calls prog 251 #[γ M,γ N] w λe w'=>e= .returned (ι (CQ s))/\PrS ae w' R hi Br M O N (CS s) t (dC f 0 (CO s) 0 0 ύ 0):=by
 unfold CQ CS CO;have al:=Zt h.rd.byt;have ac:Byt (tkS s 1).1:=h.rd.byt.drop _;have am:=Zt ac;have c5:=β0 h.b5;have I:=κ h;have aa:num (tkB s.1 1)=nB s:=rfl;have ab:num (tkB (tkS s 1).1 1)=nB (tkS s 1):=rfl;have U:=κ aa;have af:=κ ab;clear h aa ab ac;by_cases hn:nB s<128
 ·rw[ϐ hn,ϐ hn,Ϩ τ];generalize ah:nB s=q at *;clear ah
  go_enter func251,ntmps251
  go_wp2_with (go_at_call 52;((with_reducible refine(jT I.o.rd).mono ?_);rintro e w1 ⟨rfl,H,d⟩;rw[U.o];have J:=κ (I.o.step (s':=tkS s 1) H d);clear H d))
  go_ret;exact⟨rfl,J.o⟩
 ·rw[ώ hn,ώ hn,Ϫ τ];generalize nB s=q at *;generalize ai:nB (tkS s 1)=q2 at *;clear ai
  go_enter func251,ntmps251
  go_wp2_with first | (go_at_call 52;((with_reducible refine(jT I.o.rd).mono ?_);rintro e w1 ⟨rfl,H,d⟩;rw[U.o];have J:=κ ((I.o.step (s':=tkS s 1) H d).put8 4 (μ ό));have aj:=qm (I.o.step (s':=tkS s 1) H d).b8 4 (v:= μ ύ) rfl;have an:=yw (I.o.step (s':=tkS s 1) H d).b8 4;have ak:=β0 J.o.b5;clear H d)) | (go_at_call 52;((with_reducible refine(jT J.o.rd).mono ?_);rintro e w2 ⟨rfl,ad,Y⟩;rw[af.o];have ag:=κ (J.o.step (s':=tkS (tkS s 1) 1) ad Y);clear ad Y))
  go_ret;exact⟨rfl,ag.o⟩
def FZ {U:World} {I:Nat} (h:PrS U w R hi Br d H I s t cs):
  Calls prog 252 #[γ d] w λe w'=>e= .returned (ι (nB s))/\PrS U w' R hi Br d H I (tkS s 1) t cs:=by
 have ab:=Zt h.rd.byt;have c5:=β0 h.b5;have J:=κ h;have N:num (tkB s.1 1)=nB s:=rfl;have Y:=κ N;clear h N;generalize nB s=q at *
 go_enter func252,ntmps252
 go_wp2_with (go_at_call 52;((with_reducible refine(jT J.o.rd).mono ?_);rintro e w1 ⟨rfl,O,M⟩;rw[Y.o];have aa:=κ (J.o.step (s':=tkS s 1) O M);clear O M))
 go_ret;exact⟨rfl,aa.o⟩
def Hg {q:Int} (h:0<=q/\q<=255):fld q 5 1=q/32%2/\fld q 6 2=q/64/\fld q 0 5=q%32:=by
 have t0:two 0=1:=by decide
 have t1:two 1=2:=by decide
 have t2:two 2=4:=by decide
 have t5:two 5=32:=by decide
 have d:two 6=64:=by decide
 unfold fld;refine⟨?_, ?_, ?_⟩
 ·rw[ϐ (show May 5 1 by unfold May;decide),t5,t1]
 ·rw[ϐ (show May 6 2 by unfold May;decide),d,t2];omega
 ·rw[ϐ (show May 0 5 by unfold May;decide),t0,t5];omega
def Cx {ah:World} {N O:Nat} {q:Int} {f ag Y:Int} {ai:Bool} (h:PrQ ah w R hi Br N O d H s t (dC f ag ai Y 0 ύ 0) q) (ad:0<=q/\q<=255) (aw:d<H):
  Calls prog 253 #[γ H,γ d] w λe w'=>e= .returned (ι (q/64))/\PrQ ah w' R hi Br N O d H s t (dC f ag ai Y 0 (bit q 32) 0) q:=by
 obtain⟨h,M⟩:=h;obtain⟨aa,ab,aq⟩:=Hg ad;have ae:U64 q:=by unfold U64;omega
 have ac:(q/32%2==1)=bit q 32:=by unfold bit;rw[C6];simp
 have aj:=κ aa;have ak:=κ ab;have ap:=κ ac;have ar:=β0 M;have J:=κ h;have an:=κ M;obtain⟨ay,az⟩:=ad;have aA:q/64<=3:=by omega
 have aB:0<=q/64:=by omega
 clear h M aa ab aq ac;generalize q/64=q6 at *
 go_enter func253,ntmps253
 go_wp2_with first | (go_at_call 254;((with_reducible refine(QK q 5 1 ae (by unfold May;decide) _).mono ?_);rintro e w1 ⟨rfl,I,rfl⟩;rw[aj.o];have am:=κ ((J.o.on (ql.drewN _ I)).put8 7 (μ (bit q 32)));have U:=κ (qo (qr an.o I) ⟨d,7,ϋ⟩ (μ (bit q 32)) (by show H≠d;omega));have au:=qm (J.o.on (ql.drewN w I)).b8 7 (v:= μ ύ) rfl;have aC:=yw (J.o.on (ql.drewN w I)).b8 7;have ax:=ap.o;have av:=β0 U.o)) | (go_at_call 254;((with_reducible refine(QK q 6 2 ae (by unfold May;decide) _).mono ?_);rintro e w2 ⟨rfl,af,rfl⟩;rw[ak.o];have ao:=κ (am.o.on (ql.drewN _ af));have al:=κ (qr U.o af)))
 go_ret;exact⟨rfl,ao.o,al.o⟩
def FW {U:World} {I J M:Nat} {q:Int} (h:PrQ U w R hi Br I J M d s t cs q) (ag:0<=q/\q<=255):
  Calls prog 255 #[γ d] w λe w'=>e= .returned (ι (q%32))/\PrQ U w' R hi Br I J M d s t cs q:=by
 obtain⟨h,H⟩:=h;obtain⟨ae,af,N⟩:=Hg ag;have ah:U64 q:=by unfold U64;omega
 have Y:=κ N;have ai:=β0 H;have ab:=κ h;have ad:=κ H;have aj:q%32<=31:=by omega
 have ak:0<=q%32:=by omega
 clear h H ae af N;generalize q%32=q5 at *
 go_enter func255,ntmps255
 go_wp2_with (go_at_call 254;((with_reducible refine(QK q 0 5 ah (by unfold May;decide) _).mono ?_);rintro e w1 ⟨rfl,O,rfl⟩;rw[Y.o];have ac:=κ (ab.o.on (ql.drewN _ O));have aa:=κ (qr ad.o O)))
 go_ret;exact⟨rfl,ac.o,aa.o⟩
def Lo {O:World} {I:Nat} {f:Int} (h:PrS O w R hi Br d H I s t (dC f 0 ύ 0 0 ύ 0)) (Y:0<=t/\t<=255):
  Calls prog 250 #[υ 128,.func (.func 251) #[] #[γ d,γ I],γ H] w λe w'=>e= .returned (ι (gk t s).1.1)/\PrS O w' R hi Br d H I (gk t s).2 t (dC f 0 (gk t s).1.2 0 0 ύ 0):=by
 have aa:=β0 h.b7;have J:=κ h;have N:=(Zw Y).1;clear h;cases hb:bit t 128 with
 | false=>
  rw[hb,ώ η] at N;have e:gk t s=((-1,ύ),s):=by unfold gk;rw[hb,ώ η]
  rw[e];clear e hb
  go_enter func250,ntmps250
  go_wp2;go_ret;exact⟨rfl,J.o⟩
 | true=>
  rw[hb,ϐ rfl] at N;have e:gk t s=((CQ s,CO s),CS s):=by unfold gk CQ CS CO;rw[hb,ϐ rfl];by_cases hn:nB s<128<;>simp[hn]
  have E:=κ e;clear e hb
  go_enter func250,ntmps250
  go_wp2_with (go_at_call 251;((with_reducible refine(FK J.o).mono ?_);rintro e w1 ⟨rfl,M⟩;have U:=κ M;clear M))
  go_ret;rw[E.o];exact⟨rfl,U.o⟩
def Lp {O:World} {I:Nat} (h:PrS O w R hi Br d H I s t cs) (Y:0<=t/\t<=255):
  Calls prog 250 #[υ 64,.func (.func 252) #[] #[γ d],γ H] w λe w'=>e= .returned (ι (Jl t s).1)/\PrS O w' R hi Br d H I (Jl t s).2 t cs:=by
 have aa:=β0 h.b7;have J:=κ h;have N:=(Zw Y).2.1;clear h;cases hb:bit t 64 with
 | false=>
  rw[hb,ώ η] at N;have e:Jl t s=(-1,s):=by unfold Jl;rw[hb,ώ η]
  rw[e];clear e hb
  go_enter func250,ntmps250
  go_wp2;go_ret;exact⟨rfl,J.o⟩
 | true=>
  rw[hb,ϐ rfl] at N;have e:Jl t s=(nB s,tkS s 1):=by unfold Jl;rw[hb,ϐ rfl]
  have E:=κ e;clear e hb
  go_enter func250,ntmps250
  go_wp2_with (go_at_call 252;((with_reducible refine(FZ J.o).mono ?_);rintro e w1 ⟨rfl,M⟩;have U:=κ M;clear M))
  go_ret;rw[E.o];exact⟨rfl,U.o⟩
def Gg {ab:World} {J I:Nat} {q:Int} {f aa N:Int} {ac:Bool} (h:PrQ ab w R hi Br J I H d s t (dC f aa ac N 0 ύ 0) q) (ag:0<=t/\t<=255) (Y:0<=q/\q<=255) (af:H<d):
  Calls prog 250 #[υ 32,.func (.func 253) #[] #[γ d,γ H],γ I] w λe w'=>e= .returned (ι (if bit t 32 then q/64 else -1))/\PrQ ab w' R hi Br J I H d s t (dC f aa ac N 0 (bit t 32&&bit q 32) 0) q:=by
 have ah:=β0 h.1.b7;have M:=κ h;have U:=(Zw ag).2.2.1;have ae:=κ Y;clear h Y;cases hb:bit t 32 with
 | false=>
  rw[hb,ώ η] at U;rw[ώ η,K3];clear hb
  go_enter func250,ntmps250
  go_wp2;go_ret;exact⟨rfl,M.o⟩
 | true=>
  rw[hb,ϐ rfl] at U;rw[ϐ rfl,G3];clear hb
  go_enter func250,ntmps250
  go_wp2_with (go_at_call 253;((with_reducible refine(Cx M.o ae.o af).mono ?_);rintro e w1 ⟨rfl,O⟩;have ad:=κ O;clear O))
  go_ret;exact⟨rfl,ad.o⟩
def Ao {Y:World} {I J:Nat} {q:Int} (h:PrQ Y w R hi Br I H J d s t cs q) (ac:0<=t/\t<=255) (U:0<=q/\q<=255):
  Calls prog 250 #[υ 16,.func (.func 255) #[] #[γ d],γ H] w λe w'=>e= .returned (ι (if bit t 16 then q%32 else -1))/\PrQ Y w' R hi Br I H J d s t cs q:=by
 have ad:=β0 h.1.b7;have M:=κ h;have O:=(Zw ac).2.2.2.1;have ab:=κ U;clear h U;cases hb:bit t 16 with
 | false=>
  rw[hb,ώ η] at O;rw[ώ η];clear hb
  go_enter func250,ntmps250
  go_wp2;go_ret;exact⟨rfl,M.o⟩
 | true=>
  rw[hb,ϐ rfl] at O;rw[ϐ rfl];clear hb
  go_enter func250,ntmps250
  go_wp2_with (go_at_call 255;((with_reducible refine(FW M.o ab.o).mono ?_);rintro e w1 ⟨rfl,N⟩;have aa:=κ N;clear N))
  go_ret;exact⟨rfl,aa.o⟩
def PrS.begin {w2:World} (M:Z= #[μ ύ,ύ,υ 0,ι 0,ύ,ι 0,ι 0,ύ,ι 0]) (I:(w.alloc (.cells Z 366)).heap.size<=R)
  (r:qu w2 R b 0 (λg=>(w.alloc (.cells Z 366)).heap.size<=g/\g<w2.heap.size)) (m:ql (w.alloc (.cells Z 366)) w2):
  qu w2 R b 0 (λg=>g<w2.heap.size)/\ql w w2/\w2.heap[w.heap.size]? =ϊ (.cells Z 366 (0,0))/\w.heap.size<R/\R<w2.heap.size:=by
 have H:R<w2.heap.size:=by obtain⟨v,d,_⟩:=r.blk;exact qn d
 have J:(w.alloc (.cells Z 366)).heap.size=w.heap.size+1:=by simp
 exact⟨r.mono λg h=>h.2,X8.trans m,qq m (qj w _),τ,H⟩
structure PrP (w0 w:World) (R hi Br B5 B7:Nat) (s:RdS) (t:Int):Prop where
 rd:qu w R s.1 s.2 (λg=>g<hi)
 more:ql w0 w
 br:w.heap[Br]? =ϊ (.cells #[.bool ύ,.bool ύ,.int .u8 0,.int .i64 0,.bool ύ,.int .i64 0,.int .i64 0,.bool ύ,.int .i64 0] 366 (0,0))
 b5:w.heap[B5]? =ϊ (.cells #[.pointer (ϊ ⟨R,0,ϋ⟩)] 156 (0,0))
 b7:w.heap[B7]? =ϊ (.cells #[.int .u8 t] 5 (0,0))
 n0:w0.heap.size<=Br
 nR:Br<R
 n1:R<hi
 n5:hi<=B5
 n7:B5<B7
def PrP.step (h:PrP I w R hi Br d H s t) (r:qu w' R s'.1 s'.2 (λg=>g<hi)) (a:jt (λb=>b=R) w w'):PrP I w' R hi Br d H s' t:=by
 have:=h.n0;have:=h.nR;have:=h.n1;have:=h.n5;have:=h.n7;exact⟨r,jt.to_more h.more a (λk J=>by omega),a.blk h.br τ,a.blk h.b5 τ,a.blk h.b7 τ,h.n0,h.nR,h.n1,h.n5,h.n7⟩
def PrP.put7 (h:PrP I w R hi Br H d s t) (t':Int):PrP I (w.setCell ⟨d,0,ϋ⟩ (υ t')) R hi Br H d s t':=by
 have:=h.n0;have:=h.nR;have:=h.n1;have:=h.n5;have:=h.n7;have a:jt (λb=>b=d) w (w.setCell ⟨d,0,ϋ⟩ (υ t')):=(jt.refl (λb=>b=d) w).set (p:=⟨d,0,ϋ⟩) rfl _;exact⟨h.rd.off a τ (λg J e=>by omega),h.more.st (p:=⟨d,0,ϋ⟩) (by show _<=d;omega) _,a.blk h.br τ,a.blk h.b5 τ,qB (qp h.b7 0 _) rfl,h.n0,h.nR,h.n1,h.n5,h.n7⟩
def PrP.box (h:PrP I w R hi Br d H s t) (cs:Array Value):PrS I (w.alloc (.cells cs 366)) R hi Br d H w.heap.size s t cs:=
 ⟨h.rd.more X8,h.more.al _,qs h.br _,qs h.b5 _,qs h.b7 _,qj w _,h.n0,h.nR,h.n1,h.n5,h.n7,qn h.b7⟩
def PrP.make {w2 d:World} (O:qu w2 R b 0 (λg=>g<w2.heap.size)) (m:ql w w2) (I:w2.heap[Br]? =ϊ (.cells #[μ ύ,ύ,υ 0,ι 0,ύ,ι 0,ι 0,ύ,ι 0] 366 (0,0))) (J:w.heap.size<=Br) (M:Br<R) (n2:R<w2.heap.size)
  (r:qu d R s'.1 s'.2 (λg=>g<w2.heap.size)) (a:jt (λb=>b=R) (w2.alloc (.cells #[γ R] 156)) d):
  PrP w (d.alloc (.cells #[υ 0] 5)) R w2.heap.size Br w2.heap.size d.heap.size s' 0:=by
 have H:d.heap[w2.heap.size]? =_:=a.blk (qj w2 _) τ;refine⟨r.more X8,(jt.to_more (m.al _) a (λk N=> ?_)).al _,qs (a.blk (qs I _) τ) _,qs H _,qj _ _,J,M,n2,ϔ _,qn H⟩;omega
def PrQ.mk {M:World} {I J:Nat} {q:Int} (h:PrS M w R hi Br H I J s t cs) (k:w.heap[d]? =ϊ (.cells #[ψ q] 231 (0,0))):PrQ M w R hi Br H I J d s t cs q:=⟨h,k⟩
def ql.st9 {H:World} (m:ql H w) (B:Nat) (d:H.heap.size<=B) (v0 I J v3 v4 v5 M N O:Value):
  ql H (((((((((w.setCell ⟨B,0,ϋ⟩ v0).setCell ⟨B,1,ϋ⟩ I).setCell ⟨B,2,ϋ⟩ J).setCell ⟨B,3,ϋ⟩ v3).setCell ⟨B,4,ϋ⟩ v4).setCell ⟨B,5,ϋ⟩ v5).setCell ⟨B,6,ϋ⟩ M).setCell ⟨B,7,ϋ⟩ N).setCell ⟨B,8,ϋ⟩ O):=
 ((((((((m.st (p:=⟨B,0,ϋ⟩) d v0).st (p:=⟨B,1,ϋ⟩) d I).st (p:=⟨B,2,ϋ⟩) d J).st (p:=⟨B,3,ϋ⟩) d v3).st (p:=⟨B,4,ϋ⟩) d v4).st (p:=⟨B,5,ϋ⟩) d v5).st (p:=⟨B,6,ϋ⟩) d M).st (p:=⟨B,7,ϋ⟩) d N).st (p:=⟨B,8,ϋ⟩) d O
def PrS.put10 {M:World} {I J:Nat} (h:PrS M w R hi Br I J H s t cs) (N:H<d):PrS M (w.setCell ⟨d,0,ϋ⟩ v) R hi Br I J H s t cs:=by
 have:=h.n0;have:=h.nR;have:=h.n1;have:=h.n5;have:=h.n7;have:=h.n8;have a:jt (λb=>b=d) w (w.setCell ⟨d,0,ϋ⟩ v):=(jt.refl (λb=>b=d) w).set (p:=⟨d,0,ϋ⟩) rfl _;exact⟨h.rd.off a τ (λg O e=>by omega),h.more.st (p:=⟨d,0,ϋ⟩) (by show _<=d;omega) _,a.blk h.br τ,a.blk h.b5 τ,a.blk h.b7 τ,a.blk h.b8 τ,h.n0,h.nR,h.n1,h.n5,h.n7,h.n8⟩
def kz (v:Value) (b:List Int) (w:World) (bE:SlI .u8 w v b) (aQ:Byt b) (bU:b.length<=1000000):
  Calls prog 195 #[v] w λe w'=>e= .returned (.tuple #[θ #[μ (qW b).1.lo,μ (qW b).1.st,υ (qW b).1.pt,ι (qW b).1.pic,μ (qW b).1.wd,ι (qW b).1.bs,ι (qW b).1.tr,μ (qW b).1.sy,ι (qW b).1.ky],ι (qW b).2.1,ι (qW b).2.2])/\ql w w':=by
 have bh:=κ (bE.keep (ql.alloc w (.cells #[μ ύ,ύ,υ 0,ι 0,ύ,ι 0,ι 0,ύ,ι 0] 366)));have ar:0<=nB (b,0)/\nB (b,0)<=255:=Zt (s:=(b,0)) aQ;obtain⟨cu,co,rfl,aR⟩:=bE;clear aR;have bT:=(JW ar).1;have cp:=(JW ar).2.2.1;have cq:=(JW ar).2.2.2;have cr:=(Zw ar).2.2.2.2.1;have ai:num (tkB b 1)=nB (b,0):=rfl;have am:=κ ai;clear ai;generalize bt:nB (b,0)=f at *;have ao:=κ bt;clear bt
 go_enter func195,ntmps195
 go_upto_if 18 with (first | (go_at_call 51;(go_call NV _ b _ bh.o aQ bU as e w2 ⟨R,rfl,bo,bw,bu⟩;obtain⟨bB,bA,bi,n1,n2⟩:=PrS.begin rfl bo bw bu;have ay:=κ bB;have bJ:=κ bA;have aX:=κ bi;clear bw bu bB bA bi bo;have aS:=β0 (qj w2 (.cells #[γ R] 156)))) | (go_at_call 52;(go_call jT (ay.o.more X8) as e ca ⟨rfl,bC,a3⟩;rw[am.o];have ac:=κ (PrP.make ay.o bJ.o aX.o (ϔ _) n1 n2 (s':=tkS (b,0) 1) bC a3);clear bC a3)))
 generalize w2.heap.size=hi at *;generalize ca.heap.size=B7 at *;have bX:=β0 ac.o.b5;have aV:=β0 ac.o.b7;have bj:0<=(zd (b,0)).2.1/\(zd (b,0)).2.1<=255:=by
  unfold zd;split
  ·exact Zt (s:=tkS (b,0) 1) (aQ.drop _)
  ·exact⟨η,η⟩
 have ab:=κ bj;clear bj
 go_cut [] from 18 (λaT=>PrP w aT R hi w.heap.size hi B7 (zd (b,0)).2.2 (zd (b,0)).2.1)
 case first=>
  cases hbt:bit f 128 with
  | false=>
   have e:zd (b,0)=(f,0,tkS (b,0) 1):=by unfold zd;rw[ao.o,hbt,ώ η]
   have J:=κ e;clear e;go_wp2;go_meet;rw[J.o];exact ac.o
  | true=>
   have e:zd (b,0)=(f,nB (tkS (b,0) 1),tkS (tkS (b,0) 1) 1):=by unfold zd;rw[ao.o,hbt,ϐ rfl]
   have J:=κ e;clear e
   go_wp2_with (go_at_call 52;(go_call jT ac.o.rd as e w4 ⟨rfl,au,a4⟩;have bH:=κ ((ac.o.step (s':=tkS (tkS (b,0) 1) 1) au a4).put7 (nB (tkS (b,0) 1)));have bF:=yw (ac.o.step (s':=tkS (tkS (b,0) 1) 1) au a4).b7 0;have cy:=qm (ac.o.step (s':=tkS (tkS (b,0) 1) 1) au a4).b7 0 (v:= υ 0) rfl;clear au a4))
   go_meet;rw[J.o];exact bH.o
 case rest=>
  have bq:(zd (b,0)).1=f:=by rw[<-ao.o];unfold zd;split<;>rfl
  have aa:qW b=DE b.length (Zs (zd (b,0)).1 (zd (b,0)).2.1 (zd (b,0)).2.2):=rfl;rw[bq] at aa;have aY:=κ hcut;have bd:=κ aa;clear hcut aa bq ac ay aX aS bX aV am ao bh;generalize (zd (b,0)).2.1=t at *;generalize (zd (b,0)).2.2=s at *;obtain⟨t0,t1⟩:=ab.o;have ae:=(Zw ab.o).2.2.2.2.2;have ba:=κ ae;clear ae bT;have bf:Hid (PrS w (wc.alloc (.cells #[μ (bit f 32),(bit f 16),υ (f%8),ι 0,ύ,ι 0,ι 0,ύ,ι 0] 366)) R hi w.heap.size hi B7 wc.heap.size s t (dC f 0 ύ 0 0 ύ 0)):=κ (aY.o.box _);generalize bm:gk t s=P at *;generalize bn:Jl t P.2=Q at *;generalize bk:QP t Q.2=Bo at *;have bb:=κ bm;have bc:=κ bn;have an:=κ bk;clear bm bn bk;obtain⟨⟨pic,wd⟩,s1⟩:=P;obtain⟨bs,s2⟩:=Q;obtain⟨q,I⟩:=Bo
  have bI:Hid (Byt s2.1->0<=q/\q<=255):=κ (λbV=>by
   have e:=an.o;unfold QP at e;split at e
   ·cases e;exact Zt bV
   ·cases e;exact⟨ζ,ζ⟩)
  go_upto_if 41 with (first | (go_at_call 250;((with_reducible refine(Lo bf.o ab.o).mono ?_);rintro e w5 ⟨rfl,aj⟩;rw[bb.o] at aj ⊢;have bg:Hid (PrS w (w5.setCell ⟨wc.heap.size,3,ϋ⟩ (ι pic)) R hi w.heap.size hi B7 wc.heap.size s1 t (dC f pic wd 0 0 ύ 0)):=κ (aj.put8 3 (ι pic));have cb:=β3 aj.b8;have z3:=yw aj.b8 3;clear aj)) | (go_at_call 250;((with_reducible refine(Lp bg.o ab.o).mono ?_);rintro e w6 ⟨rfl,ak⟩;rw[bc.o] at ak ⊢;have ap:Hid (PrS w (w6.setCell ⟨wc.heap.size,5,ϋ⟩ (ι bs)) R hi w.heap.size hi B7 wc.heap.size s2 t (dC f pic wd bs 0 ύ 0)):=κ (ak.put8 5 (ι bs));have cc:=β5 ak.b8;have z5:=yw ak.b8 5;have H:=κ (ap.o.on (ql.alloc _ (.cells #[ψ 0] 231)));have aV:=β0 H.o.b7;clear ak cb z3)))
  have ad:=κ (qj (w6.setCell ⟨wc.heap.size,5,ϋ⟩ (ι bs)) (.cells #[ψ 0] 231));have bv:=bI.o ap.o.rd.byt;have af:=κ bv;have aq:wc.heap.size<(w6.setCell ⟨wc.heap.size,5,ϋ⟩ (ι bs)).heap.size:=qn ap.o.b8;clear bv;generalize (w6.setCell ⟨wc.heap.size,5,ϋ⟩ (ι bs)).alloc (.cells #[ψ 0] 231)=W7 at *;have bz:(w6.setCell ⟨wc.heap.size,5,ϋ⟩ (ι bs)).heap.size=w6.heap.size:=by simp
  rw[bz] at ad aq;generalize w6.heap.size=N10 at *;generalize wc.heap.size=B8 at *;clear bf bg ap cc z5 bz aY;have aS:=β0 H.o.b5
  go_cut [] from 41 (λaT=>PrQ w aT R hi w.heap.size hi B7 B8 N10 I t (dC f pic wd bs 0 ύ 0) q)
  case first=>
   cases hbt:(bit t 32||bit t 16) with
   | false=>
    have e:=an.o;unfold QP at e;rw[hbt,ώ η] at e;have ae:=ba.o;rw[hbt] at ae;have J:Hid (0=q/\s2=I):=κ (by cases e;exact⟨rfl,rfl⟩);clear e hbt;go_wp2;go_meet;rw[<-J.o.1,<-J.o.2];exact⟨H.o,ad.o⟩
   | true=>
    have e:=an.o;unfold QP at e;rw[hbt,ϐ rfl] at e;have ae:=ba.o;rw[hbt] at ae;have J:Hid (nB s2=q/\tkS s2 1=I):=κ (by cases e;exact⟨rfl,rfl⟩);have ai:num (tkB s2.1 1)=q:=J.o.1;have am:=κ ai;obtain⟨cv,cw⟩:=af.o;clear e hbt ai
    go_wp2_with (go_at_call 52;(go_call jT H.o.rd as e w8 ⟨rfl,bD,Y⟩;rw[am.o];have ag:=κ (H.o.step (s':=tkS s2 1) bD Y);have bG:=κ (Y.blk ad.o (by have:=H.o.n1;have:=H.o.n5;have:=H.o.n7;have:=H.o.n8;omega));have cz:=yw (Y.blk ad.o (by have:=H.o.n1;have:=H.o.n5;have:=H.o.n7;have:=H.o.n8;omega)) 0;have cx:=β0 (Y.blk ad.o (by have:=H.o.n1;have:=H.o.n5;have:=H.o.n7;have:=H.o.n8;omega));clear bD Y))
    go_meet;rw[<-J.o.2];exact⟨ag.o.put10 aq,qB (qp bG.o 0 _) rfl⟩
  case rest=>
   have ag:=κ hcut;clear hcut aS aV ad H;have bx:Zs f t s=(mkD f t (pic,wd) bs q,I):=by unfold Zs;rw[bb.o];simp only[bc.o,an.o]
   have be:=κ bx;clear bx;obtain⟨M,bp⟩: ∃M,M=(if bit t 32 then q/64 else -1):=⟨_,rfl⟩;obtain⟨U,bl⟩: ∃U,U=(if bit t 16 then q%32 else -1):=⟨_,rfl⟩;have az:=κ bp;have ax:=κ bl;clear bp bl;obtain⟨aw,al⟩:=ν ((if ¬I.2=0 then I.2 else if 0<I.1.length then 4 else 0));have aZ:=κ al;have aR:=ag.o.1.rd.small;by_cases he:I.2=3
   ·have bW:aw=3:=by rw[<-al,he];rfl
    have aa:qW b=(ds0,0,3):=by rw[bd.o,be.o];unfold DE;rw[ϐ he]
    subst bW;have J:=κ aa;clear he al aa aR
    go_wp2_with first | (go_at_call 250;((with_reducible refine(Gg ag.o ab.o af.o aq).mono ?_);rintro e w9 ⟨rfl,O⟩;rw[<-az.o];obtain⟨O,ah⟩:=O;have aA:Hid (PrS w (w9.setCell ⟨B8,6,ϋ⟩ (ι M)) R hi w.heap.size hi B7 B8 I t (dC f pic wd bs M (bit t 32&&bit q 32) 0)):=κ (O.put8 6 (ι M));have av:=κ (qo ah ⟨B8,6,ϋ⟩ (ι M) (by show N10≠B8;omega));have aU:=β6 O.b8;have aW:=yw O.b8 6;clear O ah)) | (go_at_call 250;((with_reducible refine(Ao (PrQ.mk aA.o av.o) ab.o af.o).mono ?_);rintro e w10 ⟨rfl,N⟩;rw[<-ax.o];obtain⟨N,aG⟩:=N;have d:Hid (PrS w (w10.setCell ⟨B8,8,ϋ⟩ (ι U)) R hi w.heap.size hi B7 B8 I t (dC f pic wd bs M (bit t 32&&bit q 32) U)):=κ (N.put8 8 (ι U));have cd:=β8 N.b8;have bF:=yw N.b8 8;have ce:=β0 d.o.b5;clear N aG aU aW)) | (go_at_call 57;(go_call zn d.o.rd as e bY ⟨rfl,rfl⟩)) | (go_at_call 59;(go_call yT d.o.rd as e bZ ⟨rfl,rfl⟩;rw[aZ.o];have aH:=β0 d.o.br;have cf:=yw d.o.br 0;have aI:=β1 d.o.br;have cg:=yw d.o.br 1;have aJ:=β2 d.o.br;have ch:=yw d.o.br 2;have aK:=β3 d.o.br;have ci:=yw d.o.br 3;have aL:=β4 d.o.br;have cj:=yw d.o.br 4;have aM:=β5 d.o.br;have ck:=yw d.o.br 5;have aN:=β6 d.o.br;have cl:=yw d.o.br 6;have aO:=β7 d.o.br;have cm:=yw d.o.br 7;have aP:=β8 d.o.br;have cn:=yw d.o.br 8;have bK:=β0 d.o.b8;have bL:=β1 d.o.b8;have bM:=β2 d.o.b8;have bN:=β3 d.o.b8;have bO:=β4 d.o.b8;have bP:=β5 d.o.b8;have bQ:=β6 d.o.b8;have bR:=β7 d.o.b8;have bS:=β8 d.o.b8))
    (refine bodyPost_ret (v:= .tuple #[θ #[μ ύ,ύ,υ 0,ι 0,ύ,ι 0,ι 0,ύ,ι 0],ι 0,ι 3]) ?rr1 rfl ?_;(case rr1=>(simp[results,results195,go_sem,aH,aI,aJ,aK,aL,aM,aN,aO,aP])))
    have aB:=κ (λa0 aC aD a3 a4 a5 aE aF Y=>ql.st9 d.o.more w.heap.size (ϔ _) a0 aC aD a3 a4 a5 aE aF Y);refine⟨by rw[J.o];rfl, ?_⟩;exact aB.o _ _ _ _ _ _ _ _ _
   ·have ct:(aw==3)=ύ:=by
     have: ¬aw=3:=by
      rw[<-al];split
      ·exact he
      ·split<;>decide
     simpa using this
    have aa:qW b=(mkD f t (pic,wd) bs q,(b.length:Int)-I.1.length,0):=by rw[bd.o,be.o];unfold DE;rw[ώ he]
    have J:=κ aa;clear he al aa
    go_wp2_with first | (go_at_call 250;((with_reducible refine(Gg ag.o ab.o af.o aq).mono ?_);rintro e w9 ⟨rfl,O⟩;rw[<-az.o];obtain⟨O,ah⟩:=O;have aA:Hid (PrS w (w9.setCell ⟨B8,6,ϋ⟩ (ι M)) R hi w.heap.size hi B7 B8 I t (dC f pic wd bs M (bit t 32&&bit q 32) 0)):=κ (O.put8 6 (ι M));have av:=κ (qo ah ⟨B8,6,ϋ⟩ (ι M) (by show N10≠B8;omega));have aU:=β6 O.b8;have aW:=yw O.b8 6;clear O ah)) | (go_at_call 250;((with_reducible refine(Ao (PrQ.mk aA.o av.o) ab.o af.o).mono ?_);rintro e w10 ⟨rfl,N⟩;rw[<-ax.o];obtain⟨N,aG⟩:=N;have d:Hid (PrS w (w10.setCell ⟨B8,8,ϋ⟩ (ι U)) R hi w.heap.size hi B7 B8 I t (dC f pic wd bs M (bit t 32&&bit q 32) U)):=κ (N.put8 8 (ι U));have cd:=β8 N.b8;have bF:=yw N.b8 8;have ce:=β0 d.o.b5;clear N aG aU aW)) | (go_at_call 57;(go_call zn d.o.rd as e bY ⟨rfl,rfl⟩)) | (go_at_call 59;(go_call yT d.o.rd as e bZ ⟨rfl,rfl⟩;rw[aZ.o];have aH:=β0 d.o.br;have cf:=yw d.o.br 0;have aI:=β1 d.o.br;have cg:=yw d.o.br 1;have aJ:=β2 d.o.br;have ch:=yw d.o.br 2;have aK:=β3 d.o.br;have ci:=yw d.o.br 3;have aL:=β4 d.o.br;have cj:=yw d.o.br 4;have aM:=β5 d.o.br;have ck:=yw d.o.br 5;have aN:=β6 d.o.br;have cl:=yw d.o.br 6;have aO:=β7 d.o.br;have cm:=yw d.o.br 7;have aP:=β8 d.o.br;have cn:=yw d.o.br 8;have bK:=β0 d.o.b8;have bL:=β1 d.o.b8;have bM:=β2 d.o.b8;have bN:=β3 d.o.b8;have bO:=β4 d.o.b8;have bP:=β5 d.o.b8;have bQ:=β6 d.o.b8;have bR:=β7 d.o.b8;have bS:=β8 d.o.b8))
    (refine bodyPost_ret (v:= .tuple #[θ #[μ (bit f 32),(bit f 16),υ (f%8),ι pic,wd,ι bs,ι M,(bit t 32&&bit q 32),ι U],ι ((b.length:Int)-I.1.length),ι 0]) ?rr2 rfl ?_;(case rr2=>(simp[results,results195,go_sem,aH,aI,aJ,aK,aL,aM,aN,aO,aP])))
    have aB:=κ (λa0 aC aD a3 a4 a5 aE aF Y=>ql.st9 d.o.more w.heap.size (ϔ _) a0 aC aD a3 a4 a5 aE aF Y);refine⟨by rw[J.o,az.o,ax.o];rfl, ?_⟩;exact aB.o _ _ _ _ _ _ _ _ _
def PH (s:RdS):(zd s).2.2.1.length<=s.1.length:=by
 have d: ∀s:RdS,(tkS s 1).1.length<=s.1.length:=λs=>by unfold tkS tkL;rw[Ϣ];omega
 unfold zd;split
 ·exact Ϙ (d _) (d _)
 ·exact d _
def Es (b:List Int):0<=(qW b).2.1/\(qW b).2.1<=b.length:=by
 have d:=PH (b,0);have H:=GI (zd (b,0)).1 (zd (b,0)).2.1 (zd (b,0)).2.2;unfold qW DE;split
 ·exact⟨Q1 _,η⟩
 ·simp only at d ⊢;omega
def Jg (v:Value) (b:List Int) (w:World) (ar:SlI .u8 w v b) (N:Byt b) (ac:b.length<=1000000):
  Calls prog 134 #[v] w λe w'=>e= .returned (μ (zJ b))/\ql w w':=by
 have M:=κ ar;have aq:=Es b;have H:zJ b=(decide ((qW b).2.2=0)&&(qW b).1.st&&decide ((qW b).1.pt=0)&&decide ((qW b).2.1<b.length)&&decide (b.getD (qW b).2.1.toNat 0%2=0)):=rfl;obtain⟨aF,aA,rfl,_,O,_⟩:=ar;obtain⟨au,am⟩:=ν ((qW b).1.st);obtain⟨ao,ak⟩:=ν ((qW b).1.pt);obtain⟨af,ag⟩:=ν ((qW b).2.1);obtain⟨an,aj⟩:=ν ((qW b).2.2);rw[ag] at aq;rw[am,ak,ag,aj] at H;have ab:=κ am;have aa:=κ ak;have Y:=κ ag;have U:=κ aj;obtain⟨ad,ae⟩:=aq;clear am ak ag aj;by_cases h1:an=0
 ·cases au with
  | false=>
   have I:Hid (zJ b=ύ):=κ (by rw[H];simp);subst h1;clear H O ad ae
   go_enter func134,ntmps134
   go_wp2_with (go_at_call 195;(go_call kz _ b _ M.o N ac as e w2 ⟨rfl,d⟩;have J:=κ d;have ah:=κ ((M.o.keep d).keep (ql.alloc _ (.cells #[μ (qW b).1.lo,μ (qW b).1.st,υ (qW b).1.pt,ι (qW b).1.pic,μ (qW b).1.wd,ι (qW b).1.bs,ι (qW b).1.tr,μ (qW b).1.sy,ι (qW b).1.ky] 366)));clear d;rw[ab.o,aa.o,Y.o,U.o]))
   go_ret;exact⟨by rw[I.o];try rfl,J.o.al _⟩
  | true=>
   by_cases h2:ao=0
   ·by_cases h3:af<b.length
    ·obtain⟨k,rfl⟩: ∃k:Nat,af=k:=⟨af.toNat,τ⟩;have ay:k<b.length:=by omega
     obtain⟨ai,az,rfl,ap,aw⟩:=O k ay;have av:=N k;have I:Hid (zJ b=decide (b.getD k 0%2=0)):=κ (by rw[H,Ϫ h1,Ϫ h2,Ϫ h3];simp);have ax: ¬(b.length:Int)<=(k:Int):=by omega
     subst h1 h2;clear H O ad ae;generalize b.getD k 0=x at *;obtain⟨aG,aH⟩:=av
     go_enter func134,ntmps134
     go_wp2_with (go_at_call 195;(go_call kz _ b _ M.o N ac as e w2 ⟨rfl,d⟩;have J:=κ d;rw[ab.o,aa.o,Y.o,U.o];have aE:w2.cell? ⟨ai,az+k,ϋ⟩=ϊ (υ x):=(by rw[d.cells ai _ ap];exact aw);have aD:ai<w2.heap.size:=ϗ ap d.size;clear d))
     go_ret;exact⟨by rw[I.o];first | rfl | (congr 2;rw[C6];simp),J.o.al _⟩
    ·have I:Hid (zJ b=ύ):=κ (by rw[H,Ϩ h3];simp);have ax:(b.length:Int)<=af:=by omega
     subst h1 h2;clear H O ad ae
     go_enter func134,ntmps134
     go_wp2_with (go_at_call 195;(go_call kz _ b _ M.o N ac as e w2 ⟨rfl,d⟩;have J:=κ d;have ah:=κ ((M.o.keep d).keep (ql.alloc _ (.cells #[μ (qW b).1.lo,μ (qW b).1.st,υ (qW b).1.pt,ι (qW b).1.pic,μ (qW b).1.wd,ι (qW b).1.bs,ι (qW b).1.tr,μ (qW b).1.sy,ι (qW b).1.ky] 366)));clear d;rw[ab.o,aa.o,Y.o,U.o]))
     go_ret;exact⟨by rw[I.o];try rfl,J.o.al _⟩
   ·have I:Hid (zJ b=ύ):=κ (by rw[H,Ϩ h2];simp);have aC:(ao != 0)=ό:=by simpa using h2
    subst h1;clear H O ad ae h2
    go_enter func134,ntmps134
    go_wp2_with (go_at_call 195;(go_call kz _ b _ M.o N ac as e w2 ⟨rfl,d⟩;have J:=κ d;have ah:=κ ((M.o.keep d).keep (ql.alloc _ (.cells #[μ (qW b).1.lo,μ (qW b).1.st,υ (qW b).1.pt,ι (qW b).1.pic,μ (qW b).1.wd,ι (qW b).1.bs,ι (qW b).1.tr,μ (qW b).1.sy,ι (qW b).1.ky] 366)));clear d;rw[ab.o,aa.o,Y.o,U.o]))
    go_ret;exact⟨by rw[I.o];try rfl,J.o.al _⟩
 ·have I:Hid (zJ b=ύ):=κ (by rw[H,Ϩ h1];simp);have aB:(an != 0)=ό:=by simpa using h1
  clear H O ad ae h1
  go_enter func134,ntmps134
  go_wp2_with (go_at_call 195;(go_call kz _ b _ M.o N ac as e w2 ⟨rfl,d⟩;have J:=κ d;have ah:=κ ((M.o.keep d).keep (ql.alloc _ (.cells #[μ (qW b).1.lo,μ (qW b).1.st,υ (qW b).1.pt,ι (qW b).1.pic,μ (qW b).1.wd,ι (qW b).1.bs,ι (qW b).1.tr,μ (qW b).1.sy,ι (qW b).1.ky] 366)));clear d;rw[ab.o,aa.o,Y.o,U.o]))
  go_ret;exact⟨by rw[I.o];try rfl,J.o.al _⟩
def IY: ∀m:Fin 256,bits .and .u8 (m.val:Int) 127=(m.val:Int)%128/\bits .and .u8 (m.val:Int) 15=(m.val:Int)%16:=Ϛ ξ
def Gd {x:Int} (h:0<=x/\x<=255):bits .and .u8 x 127=x%128/\bits .and .u8 x 15=x%16:=by
 obtain⟨m,rfl⟩:=Ϻ h.1;exact IY ⟨m,τ⟩
structure HdS (w0 w:World) (R hi Br Bd:Nat) (s:RdS) (q:Pk) (vs ve vp:Value):Prop where
 rd:qu w R s.1 s.2 (λg=>g<hi)
 more:ql w0 w
 br:w.heap[Br]? =ϊ (.cells #[.bool ύ,.int .u8 0,.int .u16 0,.int .u32 0,.int .u32 0,.slice ϋ 0 0,.bool ύ,.int .u16 0,.slice ϋ 0 0,.slice ϋ 0 0] 63 (0,0))
 bd:w.heap[Bd]? =ϊ (.cells #[.bool q.mr,.int .u8 q.ty,.int .u16 q.sq,.int .u32 q.st,.int .u32 q.sc,vs,.bool q.has,.int .u16 q.pr,ve,vp] 63 (0,0))
 rs:w.ownsRow (Bd+1) 38 1 vs q.ss.length (q.ss.map (Value.int .u32))
 re:w.ownsRow (Bd+1) 5 1 ve q.ex.length (q.ex.map (Value.int .u8))
 rp:w.ownsRow (Bd+1) 5 1 vp q.pl.length (q.pl.map (Value.int .u8))
 n0:w0.heap.size<=Br
 nR:Br<R
 n1:R<hi
 n5:hi<=Bd
def HdS.step {Bd:Nat} {I H vp:Value} (h:HdS J w R hi Br Bd s q I H vp) (r:qu w' R s'.1 s'.2 (λg=>g<hi)) (a:jt (λb=>b=R) w w'):HdS J w' R hi Br Bd s' q I H vp:=by
 have:=h.n0;have:=h.nR;have:=h.n1;have:=h.n5;exact⟨r,jt.to_more h.more a (λk d=>by omega),a.blk h.br τ,a.blk h.bd τ,xC h.rs a (λk d=>by omega),xC h.re a (λk d=>by omega),xC h.rp a (λk d=>by omega),h.n0,h.nR,h.n1,h.n5⟩
def HdS.on {Bd:Nat} {H d vp:Value} (h:HdS I w R hi Br Bd s q H d vp) (m:ql w w'):HdS I w' R hi Br Bd s q H d vp:=
 ⟨h.rd.more m,h.more.trans m,qq m h.br,qq m h.bd,jE h.rs m,jE h.re m,jE h.rp m,h.n0,h.nR,h.n1,h.n5⟩
def HdS.fill {N:World} {Bd:Nat} {q':Pk} {M J vp H d vp':Value} (h:HdS N w R hi Br Bd s q M J vp) (i:Nat) (v:Value)
  (O:((Γq q M J vp):Array Value).setIfInBounds i v= (Γq q' H d vp'))
  (aa:w.ownsRow (Bd+1) 38 1 H q'.ss.length (q'.ss.map (Value.int .u32))) (U:w.ownsRow (Bd+1) 5 1 d q'.ex.length (q'.ex.map (Value.int .u8))) (Y:w.ownsRow (Bd+1) 5 1 vp' q'.pl.length (q'.pl.map (Value.int .u8))):
  HdS N (w.setCell ⟨Bd,i,ϋ⟩ v) R hi Br Bd s q' H d vp':=by
 have:=h.n0;have:=h.nR;have:=h.n1;have:=h.n5;have a:jt (λb=>b=Bd) w (w.setCell ⟨Bd,i,ϋ⟩ v):=(jt.refl (λb=>b=Bd) w).set (p:=⟨Bd,i,ϋ⟩) rfl _;exact⟨h.rd.off a τ (λg ab e=>by omega),h.more.st (p:=⟨Bd,i,ϋ⟩) (by show _<=Bd;omega) _,a.blk h.br τ,qB (qp h.bd i v) O,xC aa a (λk I=>by omega),xC U a (λk I=>by omega),xC Y a (λk I=>by omega),h.n0,h.nR,h.n1,h.n5⟩
def HdS.scal {Bd:Nat} {H d vp:Value} (h:HdS I w R hi Br Bd s q H d vp) (i:Nat) (v:Value) (q':Pk)
  (O:((Γq q H d vp):Array Value).setIfInBounds i v= (Γq q' H d vp)) (J:q'.ss=q.ss) (M:q'.ex=q.ex) (N:q'.pl=q.pl):HdS I (w.setCell ⟨Bd,i,ϋ⟩ v) R hi Br Bd s q' H d vp:=
 h.fill i v O (by rw[J];exact h.rs) (by rw[M];exact h.re) (by rw[N];exact h.rp)
def HdS.begin {w2:World} (I:Z= Γc) (J:(w.alloc (.cells Z 63)).heap.size<=R)
  (r:qu w2 R b 0 (λg=>(w.alloc (.cells Z 63)).heap.size<=g/\g<w2.heap.size)) (m:ql (w.alloc (.cells Z 63)) w2):
  HdS w (w2.alloc (.cells Γc 63)) R w2.heap.size w.heap.size w2.heap.size (b,0) pk0 (δ ϋ 0 0) (δ ϋ 0 0) (δ ϋ 0 0):=by
 subst I;have H:R<w2.heap.size:=by obtain⟨v,d,_⟩:=r.blk;exact qn d
 have M:(w.alloc (.cells Γc 63)).heap.size=w.heap.size+1:=by simp
 exact⟨(r.mono λg h=>h.2).more X8,(X8.trans m).al _,qs (qq m (qj w _)) _,qj w2 _,World.ownsRow_nil _ _ _ _,World.ownsRow_nil _ _ _ _,World.ownsRow_nil _ _ _ _,ϔ _,τ,H,ϔ _⟩
def Pf {e:Nat} {H:Option Addr} {m:Nat} {k:IntKind} (h:w.ownsRow base e 1 (δ H m cap) l.length (l.map (Value.int k))) (O:n<=l.length) (ac:0<l.length):w.ownsRow base e 1 (δ H n cap) (l.take n).length ((l.take n).map (Value.int k)):=by
 obtain⟨ad,J⟩:=h;have d:(l.take n).length=n:=by rw[Ϡ];omega
 rcases J with ⟨_,ae⟩ | ⟨g,ab,cur,I,M,N,af,aa,U,Y⟩
 ·omega
 ·cases I;refine⟨η,ϕ ⟨g,_,cur,by rw[d],M,N,by rw[d];omega,aa,U, ?_⟩⟩;rw[d,X5,List.map_take,<-Y,V4,X5,Nat.min_eq_left O]
def XK (N:Option Addr) (cap:Nat) (b:List Int) (base:Nat) (w:World) (h:w.ownsRow base 5 1 (δ N b.length cap) b.length (b.map (Value.int .u8))) (ad:Byt b) (al:b.length<=1000000):
  Calls prog 58 #[δ N b.length cap] w λe w'=>(∃v,e= .returned (.tuple #[v,μ (xL b).2])/\w.ownsRow base 5 1 v (xL b).1.length ((xL b).1.map (Value.int .u8)))/\w=w':=by
 have O:=κ h;obtain⟨ap,ag,ab,an,d,H,_⟩:=SlI.of_owns h τ;cases ab;have M:(∃v,(Ending.returned (.tuple #[δ ϋ 0 0,ύ]))= .returned (.tuple #[v,ύ])/\w.ownsRow base 5 1 v ([]:List Int).length (([]:List Int).map (Value.int .u8))):=⟨_,rfl,World.ownsRow_nil _ _ _ _⟩;have J:=κ M;clear M;by_cases h0:b.length=0
 ·have e:xL b=([],ύ):=by unfold xL;rw[ϐ (K0.1 h0)]
  rw[e];have ac:(b.length:Int)=0:=by omega
  clear d h e H
  go_enter func58,ntmps58
  go_wp2
  go_ret2
  exact⟨J.o,rfl⟩
 ·obtain⟨aa,af,rfl,ah,ai⟩:=d (b.length-1) τ;have ae:=ad (b.length-1);have ac:((b.length:Int)==0)=ύ:=by rw[beq_eq_false_iff_ne];omega
  have I: ¬b=[]:=λe=>h0 (by rw[e];rfl)
  have e:xL b=if b.getD (b.length-1) 0=0∨(b.length:Int)<b.getD (b.length-1) 0 then ([],ύ) else (b.take (b.length-(b.getD (b.length-1) 0).toNat),ό):=by unfold xL;rw[ώ I]
  have hi:((b.length:Int)-1).toNat=b.length-1:=by omega
  have am:(b.length:Int)-1<(b.length:Int):=by omega
  have aj:0<=(b.length:Int)-1:=by omega
  have ak:1<=(b.length:Int):=by omega
  generalize b.getD (b.length-1) 0=x at *;obtain⟨aq,ar⟩:=ae;by_cases hx0:x=0
  ·rw[ϐ (ϑ hx0)] at e;rw[e];subst hx0;clear d h e H h0 I
   go_enter func58,ntmps58
   go_wp2
   go_ret2
   exact⟨J.o,rfl⟩
  ·have ao:(x==0)=ύ:=by simpa using hx0
   by_cases hxl:(b.length:Int)<x
   ·rw[ϐ (ϕ hxl)] at e;rw[e];clear d h e H h0 I hx0
    go_enter func58,ntmps58
    go_wp2
    go_ret2
    exact⟨J.o,rfl⟩
   ·rw[ώ τ] at e;rw[e];have s1:(b.length:Int)-x<=(cap:Int):=by omega
    have s2:((b.length:Int)-x).toNat=b.length-x.toNat:=by omega
    have U:=κ (Pf O.o (n:=b.length-x.toNat) τ τ);have Y:=κ s2;clear d h e h0 I hx0 H
    go_enter func58,ntmps58
    go_wp2
    go_ret2
    exact⟨⟨δ (ϊ ⟨aa,af,ϋ⟩) (b.length-x.toNat) cap,by first | rfl | rw[Y.o],by have:=U.o;rw[Ϡ,List.map_take,Nat.min_eq_left (Nat.sub_le _ _)] at this;exact this⟩,rfl⟩
def HdS.grow {w0:World} {Bd:Nat} {vs v':Value} (h:HdS w0 w R hi Br Bd s q vs (δ ϋ 0 0) (δ ϋ 0 0)) (he:q.ex=[]) (hp:q.pl=[]) (ho:w'.ownsRow (Bd+1) 38 1 v' l.length (l.map (Value.int .u32))) (g:w.grownBy w' vs.ownBlock):
  HdS w0 (w'.setCell ⟨Bd,5,ϋ⟩ v') R hi Br Bd s {q with ss:=l} v' (δ ϋ 0 0) (δ ϋ 0 0):=by
 have h0:=h.n0;have h1:=h.nR;have h2:=h.n1;have h5:=h.n5;have hge: ∀z,vs.ownBlock=ϊ z->Bd+1<=z:=λz hz=>jG h.rs hz
 have aG:jt (λz=>vs.ownBlock=ϊ z) w w':=⟨g.os,g.tape,g.output,g.size,λk hk hs=>g.block k hk (λe=>hs e.symm)⟩;have a:jt (λb=>b=Bd) w' (w'.setCell ⟨Bd,5,ϋ⟩ v'):=(jt.refl (λb=>b=Bd) w').set (p:=⟨Bd,5,ϋ⟩) rfl _;have hR: ¬vs.ownBlock=ϊ R:=λe=>by have:=hge R e;omega
 have hBr: ¬vs.ownBlock=ϊ Br:=λe=>by have:=hge Br e;omega
 have hBd: ¬vs.ownBlock=ϊ Bd:=λe=>by have:=hge Bd e;omega
 refine⟨(h.rd.off aG hR (λz hz e=>by have:=hge z e;omega)).off a τ (λz hz e=>by omega), ?_,a.blk (aG.blk h.br hBr) τ,qB (qp (aG.blk h.bd hBd) 5 v') rfl,xC ho a (λk hk=>by omega), ?_, ?_,h.n0,h.nR,h.n1,h.n5⟩
 ·exact(jt.to_more h.more aG (λk hk=>by have:=hge k hk;omega)).st (p:=⟨Bd,5,ϋ⟩) (by show _<=Bd;omega) _
 ·show World.ownsRow _ _ _ _ _ q.ex.length (q.ex.map _);rw[he];exact World.ownsRow_nil _ _ _ _
 ·show World.ownsRow _ _ _ _ _ q.pl.length (q.pl.map _);rw[hp];exact World.ownsRow_nil _ _ _ _
def ql.st10 {w0:World} (m:ql w0 w) (B:Nat) (hB:w0.heap.size<=B) (v0 v1 v2 v3 v4 v5 v6 v7 v8 v9:Value):
  ql w0 ((((((((((w.setCell ⟨B,0,ϋ⟩ v0).setCell ⟨B,1,ϋ⟩ v1).setCell ⟨B,2,ϋ⟩ v2).setCell ⟨B,3,ϋ⟩ v3).setCell ⟨B,4,ϋ⟩ v4).setCell ⟨B,5,ϋ⟩ v5).setCell ⟨B,6,ϋ⟩ v6).setCell ⟨B,7,ϋ⟩ v7).setCell ⟨B,8,ϋ⟩ v8).setCell ⟨B,9,ϋ⟩ v9):=
 (((((((((m.st (p:=⟨B,0,ϋ⟩) hB v0).st (p:=⟨B,1,ϋ⟩) hB v1).st (p:=⟨B,2,ϋ⟩) hB v2).st (p:=⟨B,3,ϋ⟩) hB v3).st (p:=⟨B,4,ϋ⟩) hB v4).st (p:=⟨B,5,ϋ⟩) hB v5).st (p:=⟨B,6,ϋ⟩) hB v6).st (p:=⟨B,7,ϋ⟩) hB v7).st (p:=⟨B,8,ϋ⟩) hB v8).st (p:=⟨B,9,ϋ⟩) hB v9
def Di (w:World) (B:Nat) (v0 v1 v2 v3 v4 v5 v6 v7 v8 v9:Value):
  jt (λb=>b=B) w ((((((((((w.setCell ⟨B,0,ϋ⟩ v0).setCell ⟨B,1,ϋ⟩ v1).setCell ⟨B,2,ϋ⟩ v2).setCell ⟨B,3,ϋ⟩ v3).setCell ⟨B,4,ϋ⟩ v4).setCell ⟨B,5,ϋ⟩ v5).setCell ⟨B,6,ϋ⟩ v6).setCell ⟨B,7,ϋ⟩ v7).setCell ⟨B,8,ϋ⟩ v8).setCell ⟨B,9,ϋ⟩ v9):=
 ((((((((((jt.refl (λb=>b=B) w).set (p:=⟨B,0,ϋ⟩) rfl v0).set (p:=⟨B,1,ϋ⟩) rfl v1).set (p:=⟨B,2,ϋ⟩) rfl v2).set (p:=⟨B,3,ϋ⟩) rfl v3).set (p:=⟨B,4,ϋ⟩) rfl v4).set (p:=⟨B,5,ϋ⟩) rfl v5).set (p:=⟨B,6,ϋ⟩) rfl v6).set (p:=⟨B,7,ϋ⟩) rfl v7).set (p:=⟨B,8,ϋ⟩) rfl v8).set (p:=⟨B,9,ϋ⟩) rfl v9
def KQ (l:List Int) (e:Int):tkB l (l.length:Int)=l/\tkL l (l.length:Int)=[]/\tkE l (l.length:Int) e=e:=by
 refine⟨?_, ?_, ?_⟩
 ·unfold tkB;simp
 ·unfold tkL;simp
 ·unfold tkE;rw[ώ τ]
def kP {e:Nat} (h:w.ownsRow base e 1 v n xs):(n:Int)<=9223372036854775807:=by
 rcases h.2 with ⟨-,rfl⟩ | ⟨g,cap,cur,-,-,-,h1,h2,-⟩
 ·omega
 ·unfold maxLen at h2;omega
def AO {t:TypeId} {a0 a1 a2 a3 a4 a5 a6 a7 a8 a9:Value} (h:w.heap[B]? =ϊ (.cells #[a0,a1,a2,a3,a4,a5,a6,a7,a8,a9] t (0,0))) (v0 v1 v2 v3 v4 v5 v6 v7 v8 v9:Value):
  ((((((((((w.setCell ⟨B,0,ϋ⟩ v0).setCell ⟨B,1,ϋ⟩ v1).setCell ⟨B,2,ϋ⟩ v2).setCell ⟨B,3,ϋ⟩ v3).setCell ⟨B,4,ϋ⟩ v4).setCell ⟨B,5,ϋ⟩ v5).setCell ⟨B,6,ϋ⟩ v6).setCell ⟨B,7,ϋ⟩ v7).setCell ⟨B,8,ϋ⟩ v8).setCell ⟨B,9,ϋ⟩ v9).heap[B]? =ϊ (.cells #[v0,v1,v2,v3,v4,v5,v6,v7,v8,v9] t (0,0)):=
 by
 have h:=qB (cs':= #[v0,a1,a2,a3,a4,a5,a6,a7,a8,a9]) (qp h 0 v0) rfl;have h:=qB (cs':= #[v0,v1,a2,a3,a4,a5,a6,a7,a8,a9]) (qp h 1 v1) rfl;have h:=qB (cs':= #[v0,v1,v2,a3,a4,a5,a6,a7,a8,a9]) (qp h 2 v2) rfl;have h:=qB (cs':= #[v0,v1,v2,v3,a4,a5,a6,a7,a8,a9]) (qp h 3 v3) rfl;have h:=qB (cs':= #[v0,v1,v2,v3,v4,a5,a6,a7,a8,a9]) (qp h 4 v4) rfl;have h:=qB (cs':= #[v0,v1,v2,v3,v4,v5,a6,a7,a8,a9]) (qp h 5 v5) rfl;have h:=qB (cs':= #[v0,v1,v2,v3,v4,v5,v6,a7,a8,a9]) (qp h 6 v6) rfl;have h:=qB (cs':= #[v0,v1,v2,v3,v4,v5,v6,v7,a8,a9]) (qp h 7 v7) rfl;have h:=qB (cs':= #[v0,v1,v2,v3,v4,v5,v6,v7,v8,a9]) (qp h 8 v8) rfl;have h:=qB (cs':= #[v0,v1,v2,v3,v4,v5,v6,v7,v8,v9]) (qp h 9 v9) rfl;exact h
def YK {t:TypeId} {a0 a1 a2 a3 a4 a5 a6 a7 a8 a9:Value} (h:w.heap[B]? =ϊ (.cells #[a0,a1,a2,a3,a4,a5,a6,a7,a8,a9] t (0,0))):w.cell? ⟨B,0,ϋ⟩=ϊ a0/\w.cell? ⟨B,1,ϋ⟩=ϊ a1/\w.cell? ⟨B,2,ϋ⟩=ϊ a2/\w.cell? ⟨B,3,ϋ⟩=ϊ a3/\w.cell? ⟨B,4,ϋ⟩=ϊ a4/\w.cell? ⟨B,5,ϋ⟩=ϊ a5/\w.cell? ⟨B,6,ϋ⟩=ϊ a6/\w.cell? ⟨B,7,ϋ⟩=ϊ a7/\w.cell? ⟨B,8,ϋ⟩=ϊ a8/\w.cell? ⟨B,9,ϋ⟩=ϊ a9:=
 ⟨qm h 0 rfl,qm h 1 rfl,qm h 2 rfl,qm h 3 rfl,qm h 4 rfl,qm h 5 rfl,qm h 6 rfl,qm h 7 rfl,qm h 8 rfl,qm h 9 rfl⟩
def ID {t:TypeId} {a0 a1 a2 a3 a4 a5 a6 a7 a8 a9:Value} (h:w.heap[B]? =ϊ (.cells #[a0,a1,a2,a3,a4,a5,a6,a7,a8,a9] t (0,0))):w.frozen? ⟨B,0,ϋ⟩=ύ/\w.frozen? ⟨B,1,ϋ⟩=ύ/\w.frozen? ⟨B,2,ϋ⟩=ύ/\w.frozen? ⟨B,3,ϋ⟩=ύ/\w.frozen? ⟨B,4,ϋ⟩=ύ/\w.frozen? ⟨B,5,ϋ⟩=ύ/\w.frozen? ⟨B,6,ϋ⟩=ύ/\w.frozen? ⟨B,7,ϋ⟩=ύ/\w.frozen? ⟨B,8,ϋ⟩=ύ/\w.frozen? ⟨B,9,ϋ⟩=ύ:=
 ⟨yw h 0,yw h 1,yw h 2,yw h 3,yw h 4,yw h 5,yw h 6,yw h 7,yw h 8,yw h 9⟩
def WD {w0:World} {t:TypeId} {a0 a1 a2 a3 a4 a5 a6 a7 a8 a9:Value} (m:ql w0 w) (hB:w0.heap.size<=B) (h:w.heap[B]? =ϊ (.cells #[a0,a1,a2,a3,a4,a5,a6,a7,a8,a9] t (0,0))) (v0 v1 v2 v3 v4 v5 v6 v7 v8 v9:Value):
  ∃WF,((((((((((w.setCell ⟨B,0,ϋ⟩ v0).setCell ⟨B,1,ϋ⟩ v1).setCell ⟨B,2,ϋ⟩ v2).setCell ⟨B,3,ϋ⟩ v3).setCell ⟨B,4,ϋ⟩ v4).setCell ⟨B,5,ϋ⟩ v5).setCell ⟨B,6,ϋ⟩ v6).setCell ⟨B,7,ϋ⟩ v7).setCell ⟨B,8,ϋ⟩ v8).setCell ⟨B,9,ϋ⟩ v9)=WF/\ql w0 WF/\jt (λb=>b=B) w WF/\WF.cell? ⟨B,0,ϋ⟩=ϊ v0/\WF.cell? ⟨B,1,ϋ⟩=ϊ v1/\WF.cell? ⟨B,2,ϋ⟩=ϊ v2/\WF.cell? ⟨B,3,ϋ⟩=ϊ v3/\WF.cell? ⟨B,4,ϋ⟩=ϊ v4/\WF.cell? ⟨B,5,ϋ⟩=ϊ v5/\WF.cell? ⟨B,6,ϋ⟩=ϊ v6/\WF.cell? ⟨B,7,ϋ⟩=ϊ v7/\WF.cell? ⟨B,8,ϋ⟩=ϊ v8/\WF.cell? ⟨B,9,ϋ⟩=ϊ v9:=
 ⟨_,rfl,m.st10 B hB v0 v1 v2 v3 v4 v5 v6 v7 v8 v9,Di w B v0 v1 v2 v3 v4 v5 v6 v7 v8 v9,YK (AO h v0 v1 v2 v3 v4 v5 v6 v7 v8 v9)⟩
def Xq (r:Pk×Int) (w:World) (e:Ending) (w':World):Prop:=
 ∃vs ve vp,e= .returned (.tuple #[.agg #[.bool r.1.mr,.int .u8 r.1.ty,.int .u16 r.1.sq,.int .u32 r.1.st,.int .u32 r.1.sc,vs,.bool r.1.has,.int .u16 r.1.pr,ve,vp],.int .i64 r.2])/\PkS w' vs ve vp r.1/\ql w w'
def yS (r:Pk×Int) (w:World) (e:Ending) (w':World):Prop:=
 ∃vs ve vp,e= .returned (.tuple #[.agg #[.bool r.1.mr,.int .u8 r.1.ty,.int .u16 r.1.sq,.int .u32 r.1.st,.int .u32 r.1.sc,vs,.bool r.1.has,.int .u16 r.1.pr,ve,vp],.int .i64 r.2])/\PkS w' vs ve vp r.1/\ql w w'/\ ∀b,(vs.ownBlock=ϊ b∨ve.ownBlock=ϊ b∨vp.ownBlock=ϊ b)->w.heap.size<=b
def yS.post {r:Pk×Int} {e:Ending} (h:yS r w e w'):Xq r w e w':=by
 obtain⟨vs,ve,vp,h1,h2,h3,_⟩:=h;exact⟨vs,ve,vp,h1,h2,h3⟩
def VB (b:Nat) (h:(δ ϋ 0 0).ownBlock=ϊ b∨(δ ϋ 0 0).ownBlock=ϊ b∨(δ ϋ 0 0).ownBlock=ϊ b):w.heap.size<=b:=by
 rcases h with h | h | h<;>cases h
def JH (h:Byt s.1) (k:Nat) (hk:k<=4):0<=num (tkB s.1 k)/\num (tkB s.1 k)<2 ^ (8* k):=zv (tkB s.1 k) k (jL h k) (zh s.1 k τ) τ
def s9H (f:Int) (s:RdS):RdS:=if bit f 32 then (if (xL s.1).2 then ([],s.2) else wrS ([],s.2) 2) else ([],s.2)
def l9H (f:Int) (s:RdS):List Int:=if bit f 32 then (xL s.1).1 else s.1
def Ek {f:Int} {s:RdS} (h:Jm s):(s9H f s).2=(vB f s).2/\(s9H f s).1=[]/\((vB f s).2=0->l9H f s=(vB f s).1):=by
 obtain⟨l,e⟩:=s;unfold s9H vB l9H bit;by_cases he:e=0
 ·subst he;by_cases h1:f/32%2=1
  ·simp only[h1,decide_true,A7,not_true,C2];by_cases h2:(xL l).2=ό
   ·simp[h2]
   ·simp only[h2];unfold wrS;simp
  ·simp[h1]
 ·have hl:l=[]:=h he;subst hl;by_cases h1:f/32%2=1
  ·have hu:(xL []).2=ύ:=rfl;simp[h1,hu,wrS,he]
  ·simp[h1,he]
def Jc (v:Value) (b:List Int) (w:World) (sl:SlI .u8 w v b) (hl:(200:Int)<b.length):
  Calls prog 16 #[v] w (yS (jl b) w):=by
 have e:jl b=(pk0,4):=by unfold jl;rw[ϐ hl]
 rw[e];obtain⟨ob,cb,rfl,_⟩:=sl;clear e
 go_enter func16,ntmps16
 go_wp2
 (refine bodyPost_ret (v:= .tuple #[Γc,ι 4]) ?rr1 rfl ?_;(case rr1=>(simp[results,results16,go_sem])))
 refine⟨δ ϋ 0 0,δ ϋ 0 0,δ ϋ 0 0,rfl,⟨SlI.nil _ _,SlI.nil _ _,SlI.nil _ _⟩, ?_,VB⟩;exact ql.alloc _ _
def Qd (v:Value) (b:List Int) (w:World) (sl:SlI .u8 w v b) (hb:Byt b) (hl: ¬(200:Int)<b.length):
  Calls prog 16 #[v] w (yS (jl b) w):=by
 obtain⟨i0,hi',hz0,hz1,hz2⟩:=info_parts (P:=prog) (e:=38) (z:= ω 0) (size:=1) (bytes:=4) ξ;have SL:=κ (sl.keep (ql.alloc w (.cells Γc 63)));have hrd:jl b=JJ b (yj (fH b) (yy (fH b) (s5H b))):=by unfold jl;rw[ώ hl]
 have b1:Byt (s1H b).1:=hb.drop _;have b2:Byt (s2H b).1:=b1.drop _;have b3:Byt (s3H b).1:=b2.drop _;have b4:Byt (s4H b).1:=b3.drop _;have u1:=JH (s:=(b,0)) hb 1 ζ;have u2:=JH b1 1 ζ;obtain⟨f,hf⟩:=ν (fH b);obtain⟨g,hg⟩:=ν (gH b);obtain⟨sq,hsq⟩: ∃x,num (tkB (s2H b).1 2)=x:=⟨_,rfl⟩;obtain⟨st,hst⟩: ∃x,num (tkB (s3H b).1 4)=x:=⟨_,rfl⟩;obtain⟨sc,hsc⟩: ∃x,num (tkB (s4H b).1 4)=x:=⟨_,rfl⟩;have f0:0<=f/\f<=255:=by rw[<-hf];have h1:num (tkB b 1)<256:=u1.2;have h0:0<=num (tkB b 1):=u1.1;unfold fH;omega
 have g0:0<=g/\g<=255:=by rw[<-hg];have h1:num (tkB (s1H b).1 1)<256:=u2.2;have h0:0<=num (tkB (s1H b).1 1):=u2.1;unfold gH;omega
 have E1:Hid (num (tkB b 1)=f):=κ hf;have E2:Hid (num (tkB (s1H b).1 1)=g):=κ hg;have E3:=κ hsq;have E4:=κ hst;have E5:=κ hsc;have hga:=(Gd g0).1;have hfa:=(Gd f0).2;have hfb:=(JW f0).2.2.2;have hfc:=(JW f0).2.2.1;have hmk: ∀x l,mkH b x l=⟨decide (128<=g),g%128,sq,st,sc,x.1,bit f 16,x.2.1,x.2.2,l⟩:=λx l=>by unfold mkH bit;rw[hf,hg,hsq,hst,hsc]
 have hen: ∀x,JJ b x=if (vB f x.2).2=0 then (mkH b x.1 (vB f x.2).1,0) else (pk0,(vB f x.2).2):=λx=>by unfold JJ;rw[hf]
 rw[hf] at hrd;obtain⟨S6,hS6⟩:=ν (yy f (s5H b));have hsh6:Jm S6:=by
  rw[<-hS6];have h5:Jm (s5H b):=by rw[WI];exact vj _ _
  unfold yy wrS;split
  ·split
   ·exact h5
   ·intro _;rfl
  ·exact h5
 rw[hS6] at hrd;rw[hrd,hen,hmk];obtain⟨X,hX⟩:=ν (yj f S6);rw[hX];obtain⟨⟨L7,P7,X7⟩,S8⟩:=X;have hx0:(L7=(j9 (f%16).toNat S6).1)/\(bit f 16=ό->P7=(Qj (j9 (f%16).toNat S6).2).1.1/\X7=(Qj (j9 (f%16).toNat S6).2).1.2/\S8=(Qj (j9 (f%16).toNat S6).2).2)/\(bit f 16=ύ->P7=0/\X7=[]/\S8=(j9 (f%16).toNat S6).2):=by
  unfold yj at hX;unfold bit;by_cases h1:f/16%2=1
  ·rw[ϐ h1] at hX;cases hX;simp[h1]
  ·rw[ώ h1] at hX;cases hX;simp[h1]
 clear hX;have HS6:=κ hS6;obtain⟨f0,f1⟩:=f0;obtain⟨g0,g1⟩:=g0;have hs9t:bit f 32=ό->s9H f S8=(if (xL S8.1).2 then ([],S8.2) else wrS ([],S8.2) 2)/\l9H f S8=(xL S8.1).1:=λh=>by unfold s9H l9H;simp[h]
 have hs9f:bit f 32=ύ->s9H f S8=([],S8.2)/\l9H f S8=S8.1:=λh=>by unfold s9H l9H;simp[h]
 have hs9p:=λh=> @Ek f S8 h
 obtain⟨S9,hS9⟩:=ν (s9H f S8);obtain⟨L9,hL9⟩:=ν (l9H f S8);obtain⟨FH,hFH⟩:=ν (bit f 16);obtain⟨FP,hFP⟩:=ν (bit f 32);rw[hS9,hL9,hFP] at hs9t hs9f;rw[hS9,hL9] at hs9p;rw[hFH] at hx0 hfb ⊢;rw[hFP] at hfc;obtain⟨PL,hPL⟩:=ν ((vB f S8).1);obtain⟨PE,hPE⟩:=ν ((vB f S8).2);rw[hPL,hPE] at hs9p ⊢;have H9T:=κ hs9t;have H9F:=κ hs9f;have H9P:=κ hs9p;clear hs9t hs9f hs9p hS9 hL9 hFH hFP hPL hPE;obtain⟨QR,hQR⟩: ∃QR:Pk×Int,(if PE=0 then (Pk.mk (decide (128<=g)) (g%128) sq st sc L7 FH P7 X7 PL,(0:Int)) else (pk0,PE))=QR:=⟨_,rfl⟩;rw[hQR];obtain⟨ob,cb,rfl,-⟩:=sl;have hgm:0<=g%128/\g%128<=127:=by omega
 obtain⟨NS,hNS⟩: ∃NS:Nat,f%16=(NS:Int):=⟨(f%16).toNat,τ⟩;have hns15:NS<=15:=by omega
 have hnst:(f%16).toNat=NS:=by omega
 rw[hNS] at hfa;rw[hnst] at hx0;have HX0:=κ hx0;clear hx0;have HNST:=κ hnst;clear hrd b1 b2 b3 b4 u1 u2 hf hg hsq hst hsc hmk hen hS6 hsh6 hNS hnst;obtain⟨GM,hGM⟩:=ν (g%128);rw[hGM] at hga hgm hQR;have HQ:=κ hQR;clear hQR;obtain⟨gm0,gm1⟩:=hgm;clear hGM;have hb200:b.length<=1000000:=by omega
 go_enter func16,ntmps16
 go_upto_region 10 with (first | (go_at_call 51;(go_call NV _ b _ SL.o hb hb200 as e w2 ⟨R,rfl,hR,hr,hm⟩;have H0:=κ (HdS.begin rfl hR hr hm);clear hR hr hm)) | (go_at_call 52;((with_reducible refine(jT H0.o.rd).mono ?_);rintro e w3 ⟨rfl,r3,a3⟩;rw[E1.o];have H1:=κ (H0.o.step (s':=s1H b) r3 a3);clear r3 a3)) | (go_at_call 52;((with_reducible refine(jT H1.o.rd).mono ?_);rintro e w4 ⟨rfl,r4,a4⟩;rw[E2.o];have H2:=κ (H1.o.step (s':=s2H b) r4 a4);clear r4 a4;have x0:=β0 H2.o.bd;have z0:=yw H2.o.bd 0;have x1:=β1 H2.o.bd;have z1:=yw H2.o.bd 1;have H3:Hid (HdS w ((w4.setCell ⟨w2.heap.size,0,ϋ⟩ (μ (decide (128<=g)))).setCell ⟨w2.heap.size,1,ϋ⟩ (υ GM)) R w2.heap.size w.heap.size w2.heap.size (s2H b) ⟨(decide (128<=g)),GM,0,0,0,[],ύ,0,[],[]⟩ (δ ϋ 0 0) (δ ϋ 0 0) (δ ϋ 0 0)):=κ ((H2.o.scal 0 (μ (decide (128<=g))) ⟨(decide (128<=g)),0,0,0,0,[],ύ,0,[],[]⟩ rfl rfl rfl rfl).scal 1 (υ GM) ⟨(decide (128<=g)),GM,0,0,0,[],ύ,0,[],[]⟩ rfl rfl rfl rfl))) | (go_at_call 53;(go_call xn H3.o.rd as e w5 ⟨rfl,r5,a5⟩;rw[E3.o];have H4:=κ (H3.o.step (s':=s3H b) r5 a5);clear r5 a5 x0 z0 x1 z1;have x2:=β2 H4.o.bd;have z2:=yw H4.o.bd 2;have H5:Hid (HdS w (w5.setCell ⟨w2.heap.size,2,ϋ⟩ (φ sq)) R w2.heap.size w.heap.size w2.heap.size (s3H b) ⟨(decide (128<=g)),GM,sq,0,0,[],ύ,0,[],[]⟩ (δ ϋ 0 0) (δ ϋ 0 0) (δ ϋ 0 0)):=κ (H4.o.scal 2 (φ sq) ⟨(decide (128<=g)),GM,sq,0,0,[],ύ,0,[],[]⟩ rfl rfl rfl rfl))) | (go_at_call 54;((with_reducible refine(jD H5.o.rd).mono ?_);rintro e w6 ⟨rfl,r6,a6⟩;rw[E4.o];have H6:=κ (H5.o.step (s':=s4H b) r6 a6);clear r6 a6 x2 z2;have x3:=β3 H6.o.bd;have z3:=yw H6.o.bd 3;have H7:Hid (HdS w (w6.setCell ⟨w2.heap.size,3,ϋ⟩ (ω st)) R w2.heap.size w.heap.size w2.heap.size (s4H b) ⟨(decide (128<=g)),GM,sq,st,0,[],ύ,0,[],[]⟩ (δ ϋ 0 0) (δ ϋ 0 0) (δ ϋ 0 0)):=κ (H6.o.scal 3 (ω st) ⟨(decide (128<=g)),GM,sq,st,0,[],ύ,0,[],[]⟩ rfl rfl rfl rfl))) | (go_at_call 54;((with_reducible refine(jD H7.o.rd).mono ?_);rintro e w7 ⟨rfl,r7,a7⟩;rw[E5.o];have H8:=κ (H7.o.step (s':=s5H b) r7 a7);clear r7 a7 x3 z3;have x4:=β4 H8.o.bd;have z4:=yw H8.o.bd 4;have H9:Hid (HdS w (w7.setCell ⟨w2.heap.size,4,ϋ⟩ (ω sc)) R w2.heap.size w.heap.size w2.heap.size (s5H b) ⟨(decide (128<=g)),GM,sq,st,sc,[],ύ,0,[],[]⟩ (δ ϋ 0 0) (δ ϋ 0 0) (δ ϋ 0 0)):=κ (H8.o.scal 4 (ω sc) ⟨(decide (128<=g)),GM,sq,st,sc,[],ύ,0,[],[]⟩ rfl rfl rfl rfl))))
 generalize w7.setCell ⟨w2.heap.size,4,ϋ⟩ (ω sc)=W9 at *;generalize w2.heap.size=hi at *;clear H0 H1 H2 H3 H4 H5 H6 H7 H8 x4 z4 SL E1 E2 E3 E4 E5;obtain⟨FB,fb1,fb2⟩: ∃FB:Bool,(FB=ό->(f<128∨191<f))/\(FB=ύ-> ¬(f<128∨191<f)):=⟨decide (f<128∨191<f),λh=>by simpa using h,λh=>by simpa using h⟩;have FB1:=κ fb1;have FB2:=κ fb2;clear fb1 fb2
 go_cut [46] from 41 (λs46 wx=>s46= μ FB/\wx=W9)
 case first=>
  cases FB with
  | true=>
   have hh:=FB1.o η;by_cases h1:f<128
   ·clear hh;go_wp2;go_meet;exact⟨rfl,rfl⟩
   ·have h2:191<f:=by omega
    clear hh;go_wp2;go_meet;exact⟨rfl,rfl⟩
  | false=>
   have hh:=FB2.o η;have h1: ¬f<128:=by omega
   have h2: ¬191<f:=by omega
   clear hh;go_wp2;go_meet;exact⟨rfl,rfl⟩
 case rest=>
 obtain⟨rfl,rfl⟩:=hcut
 go_upto_if 46 with fail
 go_cut [] from 47 (λwx=>HdS w wx R hi w.heap.size hi S6 ⟨(decide (128<=g)),GM,sq,st,sc,[],ύ,0,[],[]⟩ (δ ϋ 0 0) (δ ϋ 0 0) (δ ϋ 0 0))
 case first=>
  cases FB with
  | true=>
   have hS:yy f (s5H b)=wrS (s5H b) 2:=by unfold yy;rw[ϐ (FB1.o η)]
   have HX:=κ (HS6.o.symm.trans hS);clear hS
   go_wp2_with (go_at_call 55;(go_call zo H9.o.rd 2 as e w10 ⟨rfl,r10,a10⟩;have H10:=κ (H9.o.step (s':=wrS (s5H b) 2) r10 a10);clear r10 a10))
   go_meet;rw[HX.o];exact H10.o
  | false=>
   have hS:yy f (s5H b)=s5H b:=by unfold yy;rw[ώ (FB2.o η)]
   have HX:=κ (HS6.o.symm.trans hS);clear hS;go_wp2;go_meet;rw[HX.o];exact H9.o
 case rest=>
 have HC:=κ hcut;clear hcut H9 FB1 FB2 HS6;go_wp2
 go_loopw [51] (λi wr=> ∃k:Nat,k<=NS/\i= υ k/\ ∃vs,HdS w wr R hi w.heap.size hi (j9 k S6).2 ⟨(decide (128<=g)),GM,sq,st,sc,(j9 k S6).1,ύ,0,[],[]⟩ vs (δ ϋ 0 0) (δ ϋ 0 0)) (λi _=>NS-(intOf i).toNat)
 case atStart=>exact⟨0,τ,rfl,_,HC.o⟩
 case round=>
  obtain⟨k,hk,rfl,vs,hwx⟩:=hrel;have HW:=κ hwx;by_cases hlt:k<NS
  ·have hki:(k:Int)<(NS:Int):=by omega
   have hll:=gN k S6;have HLL:=κ hll;obtain⟨os,ns,cs,rfl,hns,_⟩:=qT hwx.rs;subst hns;have hbd: ¬(hi=R∨(δ os (j9 k S6).1.length cs).ownBlock=ϊ hi):=by
    rintro(e | e)
    ·have:=HW.o.n1;omega
    ·have:=jG HW.o.rs e;omega
   have C5:=λ(x:qz (λb=>b=R∨(δ os (j9 k S6).1.length cs).ownBlock=ϊ b) wr)=>β5 (x.h.blk HW.o.bd hbd)
   clear hwx hll
   go_wp2_with fail
   refine QN (λb=>b=R∨(δ os (j9 k S6).1.length cs).ownBlock=ϊ b) wr 7 8 [3,4,5,7] ?_
   refine Qs3 ?_
   (refine Ql ?_;intro K hK)
   refine(jD (HW.o.rd.more (ql.drewN _ 1))).mono ?_;rintro e w8 ⟨rfl,r8,a8⟩;have a8':jt (λb=>b=R∨(δ os (j9 k S6).1.length cs).ownBlock=ϊ b) wr w8:=((jt.refl _ _).drewN _).trans (a8.mono λb h=>ϑ h);refine⟨_,rfl,qi a8',hK _ _ ?_⟩;clear hK K
   (refine Ql ?_;intro K hK)
   have a9:=a8'.more (ql.alloc w8 (.cells #[ω (num (tkB (j9 k S6).2.1 4))] 38));refine⟨qi a9,hK _ _ ?_⟩;clear hK K;have J8:=(HW.o.on (ql.drewN wr 1)).step (s':=tkS (j9 k S6).2 4) r8 a8;have J9:=J8.on (ql.alloc w8 (.cells #[ω (num (tkB (j9 k S6).2.1 4))] 38))
   (refine jR rfl rfl ?_;intro K hK)
   refine XU (.tmp 54) (.tmp 57) 61 rfl (hi+1) 38 i0 (ω 0) 4 underlying61 hi' hz0 hz1 hz2 rfl (δ os (j9 k S6).1.length cs) .u32 (j9 k S6).1 rfl J9.rs (δ (ϊ ⟨w8.heap.size,0,ϋ⟩) 1 1) [num (tkB (j9 k S6).2.1 4)] rfl (SlI.of_owns (World.ownsRow_lit (e:=38) (size:=1) (base:=w8.heap.size) w8 #[ω (num (tkB (j9 k S6).2.1 4))] 1 (ϔ _) (by unfold maxLen;omega) rfl) η) (by rw[HLL.o];simp;omega) ζ (by have:=qn J9.bd;omega) ?_;intro v10 w10 ho10 hg10 hb10;have a10:jt (λb=>b=R∨(δ os (j9 k S6).1.length cs).ownBlock=ϊ b) wr w10:=a9.trans ⟨hg10.os,hg10.tape,hg10.output,hg10.size,λk hk hs=>hg10.block k hk (λe=>hs (ϕ e.symm))⟩;have J10:=κ (J9.grow rfl rfl ho10 hg10);have q5:w10.cell? ⟨hi,5,ϋ⟩=ϊ (δ os (j9 k S6).1.length cs):=by
    have:w10.heap[hi]? =_:=(hg10.block hi (qn J9.bd) (λe=>by have:=jG J9.rs e.symm;omega)).trans J9.bd;exact qm this 5 rfl
   have z5:w10.frozen? ⟨hi,5,ϋ⟩=ύ:=by
    have:w10.heap[hi]? =_:=(hg10.block hi (qn J9.bd) (λe=>by have:=jG J9.rs e.symm;omega)).trans J9.bd;exact yw this 5
   obtain⟨o10,n10,c10,rfl,hz8,hz9⟩:=qT ho10;clear hz8 hz9 ho10 hg10 hb10;refine⟨qi a10,hK _ _ ?_⟩;clear hK K;go_simp
   iterate 1 (refine qE rfl rfl (qi a10) ?_;intro K hK;go_big_quiet_op;go_big_quiet_on)
   (refine Qe ?_;intro K hK)
   refine hK _ _ ?_;clear hK K;refine qA ?_;go_wp2;go_roundw
   case rel=>exact⟨k+1,τ,by go_num,_,J10.o⟩
   case measure=>simp[intOf];omega
  ·obtain rfl:k=NS:=by omega
   have hki: ¬(k:Int)<(k:Int):=by omega
   clear hwx HC hk hlt;obtain⟨hx1,hx2,hx3⟩:=HX0.o;have hw:=HW.o;rw[<-hx1] at hw;obtain⟨S7,hS7⟩:=ν ((j9 k S6).2);rw[hS7] at hw hx2 hx3;have b7:=hw.rd.byt;have u7:=JH (s:=S7) b7 2 ζ;have u8:=JH (s:=tkS S7 2) (b7.drop _) 2 ζ;unfold Qj at hx2;obtain⟨N7,hN7⟩: ∃x,num (tkB S7.1 2)=x:=⟨_,rfl⟩;obtain⟨N8,hN8⟩: ∃x,num (tkB (tkS S7 2).1 2)=x:=⟨_,rfl⟩;have u7:0<=num (tkB S7.1 2)/\num (tkB S7.1 2)<65536:=u7;have u8:0<=num (tkB (tkS S7 2).1 2)/\num (tkB (tkS S7 2).1 2)<65536:=u8;rw[hN7] at hx2 u7;rw[hN8] at hx2 u8;obtain⟨u70,u71⟩:=u7;obtain⟨u80,u81⟩:=u8;have EN7:=κ hN7;have EN8:=κ hN8;have HB:=κ hw;have HX2:=κ hx2;have HX3:=κ hx3;clear hw hx1 hx2 hx3 hS7 HW HX0 b7 hN7 hN8 HNST;have x6:=β6 HB.o.bd;have z6:=yw HB.o.bd 6;have H1:Hid (HdS w (wr.setCell ⟨hi,6,ϋ⟩ (μ FH)) R hi w.heap.size hi S7 ⟨(decide (128<=g)),GM,sq,st,sc,L7,FH,0,[],[]⟩ vs (δ ϋ 0 0) (δ ϋ 0 0)):=κ (HB.o.scal 6 (μ FH) ⟨(decide (128<=g)),GM,sq,st,sc,L7,FH,0,[],[]⟩ rfl rfl rfl rfl)
   go_upto_if 66 with fail
   go_cut [] from 67 (λwx=> ∃ve,HdS w wx R hi w.heap.size hi S8 ⟨(decide (128<=g)),GM,sq,st,sc,L7,FH,P7,X7,[]⟩ vs ve (δ ϋ 0 0))
   case first=>
    cases FH with
    | false=>
     go_wp2;go_meet;obtain⟨e1,e2,e3⟩:=HX3.o η;rw[e1,e2,e3];exact⟨_,H1.o⟩
    | true=>
     go_wp2_with (first | (go_at_call 53;((with_reducible refine(xn H1.o.rd).mono ?_);rintro e wa ⟨rfl,ra,aa⟩;rw[EN7.o];have H2:=κ (H1.o.step (s':=tkS S7 2) ra aa);clear ra aa x6 z6;have x7:=β7 H2.o.bd;have z7:=yw H2.o.bd 7;have H3:Hid (HdS w (wa.setCell ⟨hi,7,ϋ⟩ (φ N7)) R hi w.heap.size hi (tkS S7 2) ⟨(decide (128<=g)),GM,sq,st,sc,L7,ό,N7,[],[]⟩ vs (δ ϋ 0 0) (δ ϋ 0 0)):=κ (H2.o.scal 7 (φ N7) ⟨(decide (128<=g)),GM,sq,st,sc,L7,ό,N7,[],[]⟩ rfl rfl rfl rfl))) | (go_at_call 53;((with_reducible refine(xn H3.o.rd).mono ?_);rintro e wb ⟨rfl,rb,ab⟩;rw[EN8.o];have H4:=κ (H3.o.step (s':=tkS (tkS S7 2) 2) rb ab);clear rb ab x7 z7)) | (go_at_call 56;(go_call QI (4* N8) H4.o.rd as e we ⟨v8,rfl,o8,rc,ac⟩;have H5:=κ (H4.o.step (s':=tkS (tkS (tkS S7 2) 2) (4* N8)) rc ac);have O8:=κ (kq o8 (show hi+1<=wb.heap.size from by have:=qn H4.o.bd;omega));clear rc ac o8;have x8:=β8 H5.o.bd;have z8:=yw H5.o.bd 8;obtain⟨o8,n8,c8,rfl,-,-⟩:=qT O8.o)))
     go_meet;obtain⟨e1,e2,e3⟩:=HX2.o η;rw[e1,e2,e3];exact⟨_,H5.o.fill 8 (δ o8 n8 c8) (q':=⟨(decide (128<=g)),GM,sq,st,sc,L7,ό,N7,(tkB (tkS (tkS S7 2) 2).1 (4* N8)),[]⟩) rfl H5.o.rs O8.o H5.o.rp⟩
   case rest=>
    obtain⟨ve,hc⟩:=hcut;have HC:=κ hc;have hb8:=hc.rd.byt;have hl8:=hc.rd.small;have hsh:=hc.rd.shut;have HB8:=κ hb8;have HP:=κ (H9P.o hsh);clear hc H1 HB HX2 HX3 EN7 EN8 x6 z6 H9P hsh hb8
    go_upto_if 84 with (first | (go_at_call 57;(go_call zn HC.o.rd as e wd ⟨rfl,rfl⟩)) | (go_at_call 56;(go_call QI (S8.1.length:Int) HC.o.rd as e we ⟨v9,rfl,o9,rd,ad⟩;rw[(KQ S8.1 S8.2).1] at o9;rw[(KQ S8.1 S8.2).2.1,(KQ S8.1 S8.2).2.2] at rd;have H5:=κ (HC.o.step (s':=([],S8.2)) rd ad);have O9:=κ (kq o9 (show hi+1<=_ from by have:=qn HC.o.bd;omega));clear rd ad o9;have x9:=β9 H5.o.bd;have z9:=yw H5.o.bd 9;obtain⟨o9,n9,c9,rfl,hn9,-⟩:=qT O9.o;subst hn9;have H6:=κ (H5.o.fill 9 (δ o9 S8.1.length c9) (q':=⟨(decide (128<=g)),GM,sq,st,sc,L7,FH,P7,X7,S8.1⟩) rfl H5.o.rs H5.o.re O9.o))))
    go_cut [8,9] from 85 (λs8 s9 wx=> ∃vp,HdS w wx R hi w.heap.size hi S9 ⟨(decide (128<=g)),GM,sq,st,sc,L7,FH,P7,X7,L9⟩ vs ve vp)
    case first=>
     cases FP with
     | false=>
      go_wp2;go_meet;obtain⟨e1,e2⟩:=H9F.o η;rw[e1,e2];exact⟨_,H6.o⟩
     | true=>
      obtain⟨U,hU⟩:=ν ((xL S8.1).2);have h9:=H9T.o η;rw[hU] at h9;have HU:=κ hU;have H9:=κ h9;clear h9 hU;cases U with
      | true=>
       go_wp2_with (go_at_call 58;(go_call XK o9 c9 S8.1 (hi+1) _ H6.o.rp HB8.o hl8 as e wf ⟨⟨v10,rfl,o10⟩,rfl⟩;rw[HU.o];have O10:=κ o10;clear o10;obtain⟨o10,n10,c10,rfl,-,-⟩:=qT O10.o))
       go_meet;obtain⟨e1,e2⟩:=H9.o;rw[e1,e2,ϐ trivial];exact⟨_,H6.o.fill 9 (δ o10 n10 c10) (q':=⟨(decide (128<=g)),GM,sq,st,sc,L7,FH,P7,X7,(xL S8.1).1⟩) rfl H6.o.rs H6.o.re O10.o⟩
      | false=>
       go_wp2_with (first | (go_at_call 58;(go_call XK o9 c9 S8.1 (hi+1) _ H6.o.rp HB8.o hl8 as e wf ⟨⟨v10,rfl,o10⟩,rfl⟩;rw[HU.o];have O10:=κ o10;clear o10;obtain⟨o10,n10,c10,rfl,-,-⟩:=qT O10.o)) | (go_at_call 55;(go_call zo H6.o.rd 2 as e wg ⟨rfl,rg,ag⟩;have O11:=κ (xC O10.o ag (λk hk=>by have:=H6.o.n1;omega));have H7:=κ (H6.o.step (s':=wrS ([],S8.2) 2) rg ag);clear rg ag;have x9':=β9 H7.o.bd;have z9':=yw H7.o.bd 9)))
       go_meet;obtain⟨e1,e2⟩:=H9.o;rw[e1,e2,ώ η];exact⟨_,H7.o.fill 9 (δ o10 n10 c10) (q':=⟨(decide (128<=g)),GM,sq,st,sc,L7,FH,P7,X7,(xL S8.1).1⟩) rfl H7.o.rs H7.o.re O11.o⟩
    case rest=>
     obtain⟨vp,hc⟩:=hcut;have HE:=κ hc;clear hc H6 H5 HC H9T H9F x9 z9 O9 HB8;obtain⟨hp1,hp2,hp3⟩:=HP.o;have hev:(if ¬S9.2=0 then S9.2 else if 0<S9.1.length then 4 else 0)=PE:=by
      rw[<-hp1,hp2];by_cases h0:S9.2=0<;>simp[h0]
     have HEV:=κ hev;have HP3:=κ hp3;clear hev hp1 hp2 hp3 HP;obtain⟨os,ns,cs,rfl,-,-⟩:=qT HE.o.rs;obtain⟨oe,ne,ce,rfl,-,-⟩:=qT HE.o.re;obtain⟨op,np,cp,rfl,-,-⟩:=qT HE.o.rp;obtain⟨y0,y1,y2,y3,y4,y5,y6,y7,y8,y9⟩:=YK HE.o.bd
     dsimp only at y0 y1 y2 y3 y4 y5 y6 y7 y8 y9
     obtain⟨g0,g1,g2,g3,g4,g5,g6,g7,g8,g9⟩:=YK HE.o.br;obtain⟨k0,k1,k2,k3,k4,k5,k6,k7,k8,k9⟩:=ID HE.o.br;by_cases h0:PE=0
     ·have hq:=HQ.o;rw[ϐ h0,<-HP3.o h0] at hq;have HQ2:=κ hq;clear hq HQ HP3;subst h0
      go_wp2_with (go_at_call 59;(go_call yT HE.o.rd as e wh ⟨rfl,rfl⟩;rw[HEV.o]))
      obtain⟨WF,hWF,mf,aw,r0,r1,r2,r3,r4,r5,r6,r7,r8,r9⟩:=WD HE.o.more (ϔ _) HE.o.br (μ (decide (128<=g))) (υ GM) (φ sq) (ω st) (ω sc) (δ os ns cs) (μ FH) (φ P7) (δ oe ne ce) (δ op np cp);clear g0 g1 g2 g3 g4 g5 g6 g7 g8 g9 k0 k1 k2 k3 k4 k5 k6 k7 k8 k9 y0 y1 y2 y3 y4 y5 y6 y7 y8 y9;rw[hWF];clear hWF
      (refine bodyPost_ret (v:= .tuple #[θ #[μ (decide (128<=g)),υ GM,φ sq,ω st,ω sc,δ os ns cs,FH,φ P7,δ oe ne ce,δ op np cp],ι 0]) ?rr2 rfl ?_;(case rr2=>(simp[results,results16,go_sem,r0,r1,r2,r3,r4,r5,r6,r7,r8,r9])))
      rw[<-HQ2.o]
      refine⟨δ os ns cs,δ oe ne ce,δ op np cp,rfl, ?_,mf,λb hb=>(by
       have:=HE.o.n0;have:=HE.o.n1;have:=HE.o.nR;have:=HE.o.n5;rcases hb with e | e | e
       ·have:=jG HE.o.rs e;omega
       ·have:=jG HE.o.re e;omega
       ·have:=jG HE.o.rp e;omega)⟩
      have:=HE.o.n1;have:=HE.o.nR;have:=HE.o.n5;exact⟨SlI.of_owns (xC HE.o.rs aw (λk hk=>by omega)) (kP HE.o.rs),SlI.of_owns (xC HE.o.re aw (λk hk=>by omega)) (kP HE.o.re),SlI.of_owns (xC HE.o.rp aw (λk hk=>by omega)) (kP HE.o.rp)⟩
     ·have hq:=HQ.o;rw[ώ h0] at hq;have HQ2:=κ hq;have h0b:(PE != 0)=ό:=by simpa using h0
      clear hq HQ HP3
      go_wp2_with (go_at_call 59;(go_call yT HE.o.rd as e wh ⟨rfl,rfl⟩;rw[HEV.o]))
      obtain⟨WF,hWF,mf,aw,r0,r1,r2,r3,r4,r5,r6,r7,r8,r9⟩:=WD HE.o.more (ϔ _) HE.o.br (μ ύ) (υ 0) (φ 0) (ω 0) (ω 0) (δ ϋ 0 0) (μ ύ) (φ 0) (δ ϋ 0 0) (δ ϋ 0 0);clear g0 g1 g2 g3 g4 g5 g6 g7 g8 g9 k0 k1 k2 k3 k4 k5 k6 k7 k8 k9 y0 y1 y2 y3 y4 y5 y6 y7 y8 y9;rw[hWF];clear hWF
      (refine bodyPost_ret (v:= .tuple #[Γc,ι PE]) ?rr3 rfl ?_;(case rr3=>(simp[results,results16,go_sem,r0,r1,r2,r3,r4,r5,r6,r7,r8,r9])))
      rw[<-HQ2.o];exact⟨δ ϋ 0 0,δ ϋ 0 0,δ ϋ 0 0,rfl,⟨SlI.nil _ _,SlI.nil _ _,SlI.nil _ _⟩,mf,VB⟩
def Ky (v:Value) (b:List Int) (w:World) (sl:SlI .u8 w v b) (hb:Byt b) (hl: ¬(200:Int)<b.length):Calls prog 16 #[v] w (Xq (jl b) w):=(Qd v b w sl hb hl).mono λ_ _ h=>h.post
def F9 (w:World) (R A room first:Nat) (c:List Value) (T:List (List Value)) (ac ad aa ab:Int) (css:List (List Value)) (h:qN 2 332 56 w R A room first (c::T) ac ad aa ab css):
  Calls prog 174 #[γ R] w λe w'=>e= .returned (.tuple #[θ c.toArray,ό])/\ql w w':=by
 have U:=κ h;have J:=h.ofHead;have M:c.toArray.size=2:=by simpa using J.1
 have ae:=h.fst;have ak:(first:Int)<(room:Int):=by have:=h.fst;omega
 have al:0<=(first:Int):=by omega
 have aj:(((c::T).length:Int)==0)=ύ:=by simp;omega
 have ag:(w.alloc (.cells Γs 56)).cell? ⟨R,2,ϋ⟩=ϊ (ι (c::T).length):=qm (qs h.ring _) 2 rfl;clear h
 go_enter func174,ntmps174
 go_wp2;obtain⟨W1,I⟩:=ν (w.alloc (.cells Γs 56));have O:Hid (ql w W1):=κ (by rw[<-I];exact ql.alloc _ _);have H:=κ (U.o.more O.o);have N:Hid (W1.heap[w.heap.size]? =ϊ (.cells Γs 56 (0,0))):=κ (by rw[<-I];exact qj w _);rw[I];clear I ag;have ah: ∀x:qt W1,x.w'.cell? ⟨R,0,ϋ⟩=ϊ (δ (ϊ ⟨A,0,ϋ⟩) room room):=λx=>x.cell (qn H.o.ring) (qm H.o.ring 0 rfl)
 have ai: ∀x:qt W1,x.w'.cell? ⟨R,1,ϋ⟩=ϊ (ι first):=λx=>x.cell (qn H.o.ring) (qm H.o.ring 1 rfl)
 have Y: ∀x:qt W1,x.w'.rangeAt A (first* 2) c:=λx=>by have:=(H.o.more x.h).range ae;rw[H.o.head] at this;exact this
 refine Qn W1 10 12 [10,11] ?_
 refine Qq9 ?_
 refine jh rfl rfl (qk ρ) 56 (.tmp 19) rfl A (first* 2) rfl c _ (λw' af=>by obtain⟨x,rfl⟩:=af;exact Y x) underlying56 rfl (by rw[J.1];kernel_rfl) ?_;intro K d;go_simp;refine d _ ?_;clear d K;refine zY rfl rfl ζ ?_;intro K d;refine jr 56 (.tmp 2) (.tmp 20) rfl w.heap.size 56 _ c.toArray rfl rfl (qr N.o 1) (by rw[M];kernel_rfl) (by rw[M];rfl) (all_oneCell_toArray J.2) ?_;refine⟨trivial, ?_⟩;go_simp;refine d _ _ ?_;clear d K
 (refine Qe ?_;intro K d)
 refine d _ _ ?_;clear d K;refine qA ?_;go_wp2;refine bodyPost_ret (v:= .tuple #[θ c.toArray,ό]) (yo results174 _ _ w.heap.size 56 c.toArray _ _ rfl rfl (jY (qr N.o 1) _) underlying56 rfl (by rw[M];kernel_rfl)) rfl ?_;exact⟨rfl,(EC _ _ _).to_more (O.o.dr 1) (λk e=>by rw[e];exact ϔ _)⟩
def kX {t:Nat} (d:B=w.heap.size): ∀j u,cs.toList[j]? =ϊ u->(w.alloc (.cells cs t)).cell? ⟨B,j,ϋ⟩=ϊ u:=by
 intro j u h;subst d;exact qm (qj w _) j (by simpa using h)
def ZI (s:LnS) (h:KM s) (acc:Bool) (w:World):Calls prog 176 #[θ #[ι s.most,ι s.row,s.gone],acc] w λe w'=>e= .returned (.tuple #[θ #[ι s.most,ι (V2 s acc).1,μ (V2 s acc).2.1],μ (V2 s acc).2.2])/\ql w w':=by
 obtain⟨d,H,I,_,_⟩:=h;cases hg:s.gone with
 | true=>
  have e:V2 s acc=(s.row,ό,ύ):=by unfold V2;rw[ϐ hg]
  rw[e];exact UL s.most s.row acc w
 | false=>
  cases acc with
  | true=>
   have e:V2 s ό=(0,ύ,ύ):=by unfold V2;rw[ώ (by rw[hg];decide),ϐ rfl]
   rw[e];exact Pj s.most s.row w
  | false=>
   have e:V2 s ύ=(s.row+1,s.row+1==s.most,s.row+1==s.most):=by unfold V2;rw[ώ (by rw[hg];decide),ώ ζ]
   rw[e];exact BD s.most s.row τ τ _ _ rfl rfl w
def Vx (s:LnS) (h:KM s) (acc:Bool) (s':LnS) (e:s'.most=s.most/\s'.row=(V2 s acc).1/\s'.gone=(V2 s acc).2.1/\s'.rw=s.rw):KM s':=by
 obtain⟨N,O,M,U,Y⟩:=h;obtain⟨d,H,I,J⟩:=e;unfold V2 at H I;refine⟨by rw[d];exact N, ?_, ?_,by rw[J];exact U,by rw[J];exact Y⟩
 ·rw[d,H];cases hg:s.gone with
  | true=>simpa using O
  | false=>
   have:=M hg;cases acc<;>simp<;>omega
 ·rw[d,H,I];cases hg:s.gone with
  | true=>simp
  | false=>
   have:=M hg;cases acc<;>simp<;>omega
section
variable {N:Nat->Prop} {w w':World} {k:LnB} {vo:Value} {s s':LnS}
def Ze (h:LnX N w k vo s) (acc:Bool) (H:vC s 3=ύ):Calls prog 121 #[γ k.L,acc] w λe w'=>e= .returned (.tuple #[ι 0,ι 0,ύ])/\ql w w':=by
 have d:=Jy h;rw[H] at d;have d:=κ d;clear H h
 go_enter func121,ntmps121
 go_wp2_with (go_at_call 74;(go_call d.o as e w1 ⟨rfl,I⟩;have J:=κ I;clear I))
 refine bodyPost_ret (v:= .tuple #[ι 0,ι 0,ύ]) (by simp[results,results121,go_sem]) rfl ?_;exact⟨rfl,J.o⟩
def YN (h:LnX N w k vo s) (bh:s.W.length<=1000000) (o:Int×List Int) (T:List (Int×List Int)) (aC:s.C=o::T) (af:Int) (g':Bool) (aD:V2 s ό=(af,g',ύ)):
  Calls prog 121 #[γ k.L,ό] w λe w'=>e= .returned (.tuple #[ι o.1,ι 1,ό])/\ ∃vo',LnX (xf N w w') w' k vo' {s with C:=T,W:=s.W++[o],row:=af,gone:=g'}/\jt N w w':=by
 have J:=κ h;have bE:=κ bh;have ah:=Jy h;have bk:vC s 3=ό:=by
  show decide (0<s.C.length)=ό;rw[aC];simp
 rw[bk] at ah;have ah:=κ ah;obtain⟨be,cD,aV,aW,aT,aU,aX,ai,aA⟩:=h.r3;rw[aC] at aA;obtain⟨c,q,rfl,aB,aP⟩:=aA.uncons;have AQ:=κ aP;have bu:=κ aB;obtain⟨v0,rfl,⟨Y,U,rfl,bW⟩,bX,bY⟩:=aB.read;have bz:=κ ai;have cy:k.R3<w.heap.size:=qn ai.ring;have cu:k.A3<w.heap.size:=qn ai.row;have aK:=κ h.dist;have aF:=ZI s h.ok ό;have bl:=Vx s h.ok ό {s with C:=T,W:=s.W++[o],row:=af,gone:=g'} (by rw[aD];exact⟨rfl,rfl,rfl,rfl⟩);rw[aD] at aF;have bB:=κ aF;have bC:=κ bl;clear aF bl aD;clear h bk ai aB aP aA bh aC bW bX bY
 go_enter func121,ntmps121
 go_wp2_with (first | (go_at_call 74;(go_call ah.o as e w1 ⟨rfl,ao⟩;have bG:=κ ao;have aw:=κ (qq ao J.o.blk);have aL:=κ (bz.o.more ao);clear ao;have cv:k.L<w1.heap.size:=qn aw.o;have c3:w1.cell? ⟨k.L,3,ϋ⟩=ϊ (π (ϊ ⟨k.R3,0,ϋ⟩)):=qm aw.o 3 rfl)) | (go_at_call 174;(go_call F9 w1 k.R3 k.A3 s.room be _ q aV aW aT aU aX aL.o as e w2 ⟨rfl,ap⟩;have az:Hid (ql w w2):=κ (bG.o.trans ap);have ax:=κ (qq ap aw.o);have bx:=κ (aL.o.more ap);clear ap;have cw:k.L<w2.heap.size:=qn ax.o;have c3:w2.cell? ⟨k.L,3,ϋ⟩=ϊ (π (ϊ ⟨k.R3,0,ϋ⟩)):=qm ax.o 3 rfl)) | (go_at_call 175;(go_call Na (w2.alloc (.cells #[ι o.1,δ Y o.2.length U] 56)) k.R3 k.A3 s.room be _ q aV aW aT aU aX (bx.o.more X8) as e I ⟨rfl,⟨cp,bf⟩,a3⟩;have bA:=κ bf;have A3:Hid (jt (RgB k.R3 k.A3) w I):=κ (((jt.of_more az.o).alc _).trans a3);have aJ:Hid (I.heap[k.L]? =ϊ (.cells (jQ k vo s) 153 (0,0))):=κ (a3.blk (qs ax.o _) (by obtain⟨⟨aY,aZ,ba,bb,bc,bd⟩,_⟩:=aK.o;rintro(e | e)<;>omega));have aN:Hid (I.heap[w2.heap.size]? =ϊ (.cells #[ι o.1,δ Y o.2.length U] 56 (0,0))):=κ (a3.blk (qj w2 _) (by have:=az.o.size;rintro(e | e)<;>omega));clear bf a3)))
 have am: ∀b,vo.ownBlock=ϊ b->N b/\ ¬k.muts b:=λb d=>J.o.vob d
 have bo: ∀b,vo.ownBlock=ϊ b->b<w.heap.size:=λb d=>J.o.own b (am b d).1
 have z3:w.heap.size<=I.heap.size:=A3.o.size;have cG:w.heap.size<=w2.heap.size:=az.o.size;have bp: ¬vo.ownBlock=ϊ k.L:=λe=>(am _ e).2 (ϑ rfl)
 have br: ¬vo.ownBlock=ϊ w2.heap.size:=λe=>by have:=bo _ e;omega
 have bD:=κ am;clear am bo;obtain⟨cf,hi,ca,cb,cc⟩:=info_parts (P:=prog) (e:=56) (z:= Γs) (size:=2) (bytes:=32) ξ;have bF:=λ(x:qz (λb=>vo.ownBlock=ϊ b) I)=>β0 (x.h.blk aJ.o bp)
 have aM: ∀x:qz (λb=>vo.ownBlock=ϊ b) I,x.w'.rangeAt w2.heap.size 0 [ι o.1,δ Y o.2.length U]:=λx=>xy (x.h.blk aN.o br)
 refine QN (λb=>vo.ownBlock=ϊ b) I 12 13 [7,8,9,10,12] ?_
 refine Qs6 ?_
 refine jh rfl rfl (qi σ) 56 (.tmp 7) rfl w2.heap.size 0 rfl [ι o.1,δ Y o.2.length U] _ (λw' an=>by obtain⟨x,rfl⟩:=an;exact aM x) underlying56 rfl ξ ?_;intro K H;go_simp;refine H _ ?_;clear H K bF aM
 (refine Ql ?_;intro K H)
 refine⟨qi (((jt.refl _ I).drewN 1).alc _),H _ _ ?_⟩;clear H K;have ar:Hid (jt (RgB k.R3 k.A3) w ((I.drewN 1).alloc (.cells #[ι o.1,δ Y o.2.length U] 56))):=κ ((A3.o.drewN 1).alc _);have al: ∀b,RgB k.R3 k.A3 b->k.muts b:=λb d=>ϕ (ϕ (ϕ d))
 have bt:=(J.o.o.step (ar.o.mono λb d _=>al b d)).widen (D':=λb=>(N b∨w.heap.size<=b)->k.muts b) (λb d=>ϑ λM=>d (ϑ M));have bs:jw ROu (λb=>((N b∨w.heap.size<=b)->k.muts b)∨vo.ownBlock=ϊ b) ((I.drewN 1).alloc (.cells #[ι o.1,δ Y o.2.length U] 56)) [ι o.1,δ Y o.2.length U] o:=(bu.o.step (ar.o.mono λb d=>kZ (al b d))).other λb d=>by
  rcases d with e | e
  ·exact ϑ (ϑ λM=>e (ϑ M))
  ·exact ϑ (ϕ e)
 refine jR rfl rfl ?_;intro K H
 refine zK (.tmp 35) (.tmp 37) 53 rfl 0 56 cf (Γs) 2 32 underlying53 hi ca cb cc rfl ζ vo s.W rfl bt I.heap.size [ι o.1,δ Y o.2.length U] o rfl rfl (kX rfl) X9 bs (λb d=>by
  by_cases an:b<w.heap.size
  ·have:=ar.o.size;omega
  ·have:=J.o.own b (J.o.muts b (d (ϕ τ)));omega) ζ (by have:=bE.o;omega) (Δ _) ?_
 intro cE w6 aE bj bi;have bI:=κ aE;have bJ:=κ bi;have aa:Hid (jt (λb=>vo.ownBlock=ϊ b) I w6):=κ ((((jt.refl _ I).drewN 1).alc _).trans (jt.of_grown bj));have ay:=κ (aa.o.blk aJ.o bp);have bK:=κ (aa.o.blk aN.o br);obtain⟨ae,ac,ab,rfl,bT,bU⟩:=aE.shape;clear aE bj bi bt bs bT bU;have bM:w6.cell? ⟨k.L,0,ϋ⟩=ϊ vo:=qm ay.o 0 rfl;have bP:w6.frozen? ⟨k.L,0,ϋ⟩=ύ:=yw ay.o 0;refine⟨qi aa.o,H _ _ ?_⟩;clear H K;go_simp
 (refine Ql ?_;intro K H)
 refine⟨qi aa.o,H _ _ ?_⟩;clear H K
 (refine Ql ?_;intro K H)
 refine⟨qi aa.o,H _ _ ?_⟩;clear H K
 iterate 1 (refine qE rfl rfl (qi aa.o) ?_;intro K H;go_big_quiet_op;go_big_quiet_on)
 (refine Qe ?_;intro K H)
 refine H _ _ ?_;clear H K;refine qA ?_;obtain⟨W7,aj⟩:=ν (w6.setCell ⟨k.L,0,ϋ⟩ (δ ae ac ab));have aH:Hid (jt (λb=>b=k.L) w6 W7):=κ (by rw[<-aj];exact(jt.refl (λb=>b=k.L) w6).set (p:=⟨k.L,0,ϋ⟩) rfl _);have bq: ¬w2.heap.size=k.L:=by omega
 have ag:Hid (W7.heap[k.L]? =ϊ (.cells (jQ k (δ ae ac ab) s) 153 (0,0))):=κ (by rw[<-aj];exact qB (qp ay.o 0 _) rfl);have bL:=κ (aH.o.blk bK.o bq);rw[aj];clear aj bM bP;have aQ:W7.cell? ⟨k.L,13,ϋ⟩=ϊ (ι s.most):=qm ag.o 13 rfl;have aR:W7.cell? ⟨k.L,14,ϋ⟩=ϊ (ι s.row):=qm ag.o 14 rfl;have aS:W7.cell? ⟨k.L,15,ϋ⟩=ϊ (μ s.gone):=qm ag.o 15 rfl;have bq: ¬w2.heap.size=k.L:=by omega
 go_wp2_with (go_at_call 176;(go_call bB.o _ as e w8 ⟨rfl,aq⟩;have bH:=κ aq;have O:=κ (qq aq ag.o);have aO:=κ (qq aq bL.o);clear aq;have cx:k.L<w8.heap.size:=qn O.o;have cz:w2.heap.size<w8.heap.size:=qn aO.o;have cF:w8.cell? ⟨w2.heap.size,0,ϋ⟩=ϊ (ι o.1):=qm aO.o 0 rfl;have aQ:w8.cell? ⟨k.L,13,ϋ⟩=ϊ (ι s.most):=qm O.o 13 rfl;have aR:w8.cell? ⟨k.L,14,ϋ⟩=ϊ (ι s.row):=qm O.o 14 rfl;have aS:w8.cell? ⟨k.L,15,ϋ⟩=ϊ (μ s.gone):=qm O.o 15 rfl;have bQ:w8.frozen? ⟨k.L,13,ϋ⟩=ύ:=yw O.o 13;have bR:w8.frozen? ⟨k.L,14,ϋ⟩=ύ:=yw O.o 14;have bS:w8.frozen? ⟨k.L,15,ϋ⟩=ύ:=yw O.o 15))
 refine bodyPost_ret (v:= .tuple #[ι o.1,ι 1,ό]) (by simp[results,results121,go_sem]) rfl ?_;obtain⟨WF,ak⟩:=ν ((((w8.setCell ⟨k.L,13,ϋ⟩ (ι s.most)).setCell ⟨k.L,14,ϋ⟩ (ι af)).setCell ⟨k.L,15,ϋ⟩ (μ g')).alloc (.cells #[ι s.most,ι af,g'] 151));have bv:jt (λb=>b=k.L) w8 WF:=by rw[<-ak];exact((((jt.refl (λb=>b=k.L) w8).set (p:=⟨k.L,13,ϋ⟩) rfl _).set (p:=⟨k.L,14,ϋ⟩) rfl _).set (p:=⟨k.L,15,ϋ⟩) rfl _).alc _
 have bw:WF.heap[k.L]? =ϊ (.cells (jQ k (δ ae ac ab) {s with C:=T,W:=s.W++[o],row:=af,gone:=g'}) 153 (0,0)):=by rw[<-ak];exact qs (qB (qp (qp (qp O.o 13 _) 14 _) 15 _) rfl) _
 rw[ak];clear ak aQ aR aS bQ bR bS;have aI:jt (λb=>b=k.L) w6 WF:=(aH.o.more bH.o).trans bv;have aG:jt (λb=>b=k.L∨vo.ownBlock=ϊ b) I WF:=(aa.o.mono λb d=>ϕ d).trans (aI.mono λb d=>ϑ d);have av:jt (λb=>(b=k.L∨vo.ownBlock=ϊ b)∨RgB k.R3 k.A3 b) w WF:=(A3.o.mono λb d=>ϕ d).trans (aG.mono λb d=>ϑ d);obtain⟨⟨aY,aZ,ba,bb,bc,bd⟩,⟨cq,cr,ct,bN,bO⟩,⟨cA,cB,cd,ce⟩,⟨cC,cg,ch⟩,⟨ci,cj⟩,_⟩:=aK.o;have ad: ∀b,k.muts b-> ¬vo.ownBlock=ϊ b:=λb d e=>(bD.o _ e).2 d
 have au:jt (lnM k vo) w WF:=av.mono λb d=>by
  rcases d with (e | e) | e
  ·exact ϑ (ϑ e)
  ·exact ϕ e
  ·exact ϑ (al b e)
 have bn: ∀b,(δ ae ac ab).ownBlock=ϊ b->vo.ownBlock=ϊ b∨w.heap.size<=b:=λb d=>by
  rcases bJ.o with e | e
  ·exact ϑ (by rw[<-e];exact d)
  ·rw[d] at e;injection e with e
   subst e;exact ϕ (by have:=z3;simp;omega)
 have bg: ∀b,((b=k.L∨vo.ownBlock=ϊ b)∨RgB k.R3 k.A3 b)->lnE N k vo b:=λb d=>by
  rcases d with (e | e) | e
  ·exact kZ (ϑ e)
  ·exact ϕ e
  ·exact kZ (al b e)
 have bm: ∀b,lnE (xf N w WF) k (δ ae ac ab) b->lnE N k vo b∨WF.heap.size<=b:=λb d=>ϑ (xE J.o.own bn d)
 have bV:je 2 ROu (lnD (xf N w WF) k) WF 0 56 (δ ae ac ab) (s.W++[o]):=(bI.o.step (aI.mono λb d _=>ϑ d)).widen λb d=>by
  by_cases an:b<WF.heap.size
  ·refine ϑ λM=>d ?_
   rcases M with M | M
   ·exact ϑ M
   ·exact ϕ ⟨M,an⟩
  ·exact ϕ τ
 have ck: ¬k.R1=k.L:=C4 aY;have n2: ¬k.A1=k.L:=C4 aZ;have cl: ¬k.R2=k.L:=C4 ba;have cm: ¬k.A2=k.L:=C4 bb;have cn: ¬k.R3=k.L:=C4 bc;have co: ¬k.A3=k.L:=C4 bd;refine⟨rfl,_,J.o.make au.size bw (J.o.r1.step av ?_ ?_ bg bm) (J.o.r2.step av ?_ ?_ bg bm) ⟨_,_,_,_,_,_,_,bA.o.away aG ?_ ?_,AQ.o.mono λc y bZ=>J.o.held bZ au bn⟩ bV bC.o,au.mono λb d=>J.o.inN d⟩
 ·rintro((e | e) | (e | e));exact ck e;exact ad _ (ϕ (ϑ (ϑ rfl))) e;exact bN e;exact bO e
 ·rintro((e | e) | (e | e));exact n2 e;exact ad _ (ϕ (ϑ (ϕ rfl))) e;exact cd e;exact ce e
 ·rintro((e | e) | (e | e));exact cl e;exact ad _ (ϕ (ϕ (ϑ (ϑ rfl)))) e;exact cg e;exact ch e
 ·rintro((e | e) | (e | e));exact cm e;exact ad _ (ϕ (ϕ (ϑ (ϕ rfl)))) e;exact ci e;exact cj e
 ·rintro(e | e);exact cn e;exact ad _ (ϕ (ϕ (ϕ (ϑ rfl)))) e
 ·rintro(e | e);exact co e;exact ad _ (ϕ (ϕ (ϕ (ϕ rfl)))) e
def DF (s:LnS) (j:Nat):LnS:={s with A:=if 1<j then [] else s.A,B:=if 2<j then [] else s.B,C:=if 3<j then [] else s.C}
def PU (s:LnS) (j:Nat) (h:1<=j/\j<=3):vh (DF s j) j=DF s (j+1):=by
 obtain⟨d,H⟩:=h
 match j,d,H with
 | 1,_,_=>rfl
 | 2,_,_=>rfl
 | 3,_,_=>rfl
def wA (h:LnX N w k vo s) (bc:s.W.length<=1000000) (o:Int×List Int) (T:List (Int×List Int)) (am:s.C=o::T) (I:Int) (g':Bool) (z:Bool) (an:V2 s ύ=(I,g',z)):
  Calls prog 121 #[γ k.L,ύ] w λe w'=>e= .returned (.tuple #[ι o.1,ι (if z then 7 else 0),ό])/\LnX (xf N w w') w' k vo (if z then DF {s with row:=I,gone:=g'} 4 else {s with row:=I,gone:=g'})/\jt N w w':=by
 have H:=κ h;have Y:=Jy h;have aE:vC s 3=ό:=by
  show decide (0<s.C.length)=ό;rw[am];simp
 rw[aE] at Y;have Y:=κ Y;obtain⟨aY,bs,aV,aW,aT,aU,aX,aC,aj⟩:=h.r3;rw[am] at aj;obtain⟨c,q,rfl,ak,aS⟩:=aj.uncons;have bk:=κ ak;obtain⟨v0,rfl,⟨aH,aB,rfl,bf⟩,bg,bh⟩:=ak.read;have aJ:=κ aC;have ao:=ZI s h.ok ύ;have aF:=Vx s h.ok ύ {s with row:=I,gone:=g'} (by rw[an];exact⟨rfl,rfl,rfl,rfl⟩);rw[an] at ao;have aL:=κ ao;have av:=κ aF;clear ao aF an;clear h aE aC ak aS aj bc am bf bg bh
 go_enter func121,ntmps121
 cases z
 all_goals
  go_wp2_with (first | (go_at_call 74;(go_call Y.o as e w1 ⟨rfl,ad⟩;have aO:=κ ad;have ah:=κ (qq ad H.o.blk);have au:=κ (aJ.o.more ad);clear ad;have bm:k.L<w1.heap.size:=qn ah.o;have c3:w1.cell? ⟨k.L,3,ϋ⟩=ϊ (π (ϊ ⟨k.R3,0,ϋ⟩)):=qm ah.o 3 rfl)) | (go_at_call 174;(go_call F9 w1 k.R3 k.A3 s.room aY _ q aV aW aT aU aX au.o as e w2 ⟨rfl,ae⟩;have ax:Hid (ql w w2):=κ (aO.o.trans ae);have J:=κ (qq ae ah.o);have bl:=κ (au.o.more ae);clear ae;have bn:k.L<w2.heap.size:=qn J.o;have c3:w2.cell? ⟨k.L,3,ϋ⟩=ϊ (π (ϊ ⟨k.R3,0,ϋ⟩)):=qm J.o 3 rfl;have ay:w2.cell? ⟨k.L,13,ϋ⟩=ϊ (ι s.most):=qm J.o 13 rfl;have az:w2.cell? ⟨k.L,14,ϋ⟩=ϊ (ι s.row):=qm J.o 14 rfl;have aA:w2.cell? ⟨k.L,15,ϋ⟩=ϊ (μ s.gone):=qm J.o 15 rfl)) | (go_at_call 176;(go_call aL.o (w2.alloc (.cells #[ι o.1,δ aH o.2.length aB] 56)) as e w8 ⟨rfl,af⟩;have aP:Hid (ql w w8):=κ ((ax.o.al _).trans af);have d:=κ (qq af (qs J.o _));have aa:=κ (qq af (qj w2 (.cells #[ι o.1,δ aH o.2.length aB] 56)));clear af;have bo:k.L<w8.heap.size:=qn d.o;have bp:w2.heap.size<w8.heap.size:=qn aa.o;have bt:w.heap.size<=w2.heap.size:=ax.o.size;have bj: ¬w2.heap.size=k.L:=τ;have aI:w8.cell? ⟨w2.heap.size,0,ϋ⟩=ϊ (ι o.1):=qm aa.o 0 rfl;have ay:w8.cell? ⟨k.L,13,ϋ⟩=ϊ (ι s.most):=qm d.o 13 rfl;have az:w8.cell? ⟨k.L,14,ϋ⟩=ϊ (ι s.row):=qm d.o 14 rfl;have aA:w8.cell? ⟨k.L,15,ϋ⟩=ϊ (μ s.gone):=qm d.o 15 rfl;have aZ:w8.frozen? ⟨k.L,13,ϋ⟩=ύ:=yw d.o 13;have ba:w8.frozen? ⟨k.L,14,ϋ⟩=ύ:=yw d.o 14;have bb:w8.frozen? ⟨k.L,15,ϋ⟩=ύ:=yw d.o 15)))
  obtain⟨WF,ab⟩:=ν ((((w8.setCell ⟨k.L,13,ϋ⟩ (ι s.most)).setCell ⟨k.L,14,ϋ⟩ (ι I)).setCell ⟨k.L,15,ϋ⟩ (μ g')).alloc (.cells #[ι s.most,ι I,g'] 151));have ag:jt (λb=>b=k.L) w8 WF:=by rw[<-ab];exact((((jt.refl (λb=>b=k.L) w8).set (p:=⟨k.L,13,ϋ⟩) rfl _).set (p:=⟨k.L,14,ϋ⟩) rfl _).set (p:=⟨k.L,15,ϋ⟩) rfl _).alc _
  have ai:WF.heap[k.L]? =ϊ (.cells (jQ k vo {s with row:=I,gone:=g'}) 153 (0,0)):=by rw[<-ab];exact qs (qB (qp (qp (qp d.o 13 _) 14 _) 15 _) rfl) _
  rw[ab];clear ab ay az aA aZ ba bb;have M:jt (λb=>b=k.L) w WF:=(jt.of_more aP.o).trans ag
 ·refine bodyPost_ret (v:= .tuple #[ι o.1,ι 0,ό]) (by simp[results,results121,go_sem]) rfl ?_;exact⟨rfl,H.o.setL M ai ⟨rfl,rfl,rfl,rfl,rfl⟩ av.o,M.mono λb O=>by rw[O];exact H.o.muts _ (ϑ rfl)⟩
 ·have aN:=κ (H.o.setL M ai ⟨rfl,rfl,rfl,rfl,rfl⟩ av.o);have aq:=κ M;have aQ:=κ (ag.blk aa.o bj);have be: ¬k.muts w2.heap.size:=λe=>by have:=H.o.own _ (H.o.muts _ e);omega
  clear M ag ai d aa aI
  go_loopw [12] (λt wr=> ∃j:Nat,1<=j/\j<=4/\t= ι j/\LnX (xf N w wr) wr k vo (DF {s with row:=I,gone:=g'} j)/\jt k.muts WF wr) (λt _=>4-(intOf t).toNat)
  case atStart=>exact⟨1,τ,τ,rfl,aN.o,jt.refl _ _⟩
  case round=>
   obtain⟨j,bd,bq,rfl,aD,ac⟩:=hrel;have aw:=κ aD;have ar:=κ ac;have bi:Hid (w.heap.size<=wr.heap.size):=κ (Ϙ aq.o.size ac.size);have aR:=κ (ac.blk aQ.o be);have aI:wr.cell? ⟨w2.heap.size,0,ϋ⟩=ϊ (ι o.1):=qm aR.o 0 rfl;clear aD ac;by_cases hlt:j<=3
   ·have br:(j:Int)<=3:=by omega
    have aG:(j:Int)=1∨(j:Int)=2∨(j:Int)=3:=by omega
    have aK:=κ (Cm aw.o j aG);clear aG
    go_wp2_with (go_at_call 126;(go_call aK.o as e w9 ⟨⟨v9,rfl⟩,U,a9⟩;have aM:=κ U;have ap:=κ a9;clear U a9))
    go_roundw
    case rel=>
     have U:=aM.o;rw[Wl bi.o ap.o.size,PU _ j ⟨bd,hlt⟩] at U;exact⟨j+1,τ,τ,by go_num,U,ar.o.trans ap.o⟩
    case measure=>simp[intOf];omega
   ·obtain rfl:j=4:=by omega
    go_wp2;refine bodyPost_ret (v:= .tuple #[ι o.1,ι 7,ό]) (by simp[results,results121,go_sem]) rfl ?_;exact⟨rfl,aw.o,(aq.o.mono λb O=>by rw[O];exact H.o.muts _ (ϑ rfl)).trans (ar.o.mono λb O=>H.o.muts b O)⟩
def Ar (h:LnX N w k vo s) (J:s.W.length<=1000000) (acc:Bool):Calls prog 121 #[γ k.L,acc] w λe w'=>e= .returned (.tuple #[ι (qX s acc).2.1,ι (qX s acc).2.2.1,μ (qX s acc).2.2.2])/\ ∃vo',LnX (xf N w w') w' k vo' (qX s acc).1/\jt N w w':=by
 cases hC:s.C with
 | nil=>
  have e:qX s acc=(s,0,0,ύ):=by unfold qX;rw[hC]
  rw[e];refine(Ze h acc (by show decide (0<s.C.length)=ύ;rw[hC];rfl)).mono ?_;rintro e w' ⟨rfl,m⟩;exact⟨rfl,vo,h.grow m,jt.of_more m⟩
 | cons o T=>
  rcases ho:V2 s acc with ⟨d,g',b⟩
  cases b with
  | true=>
   have M:acc=ύ:=by
    cases acc with
    | false=>rfl
    | true=>
     unfold V2 at ho;split at ho<;>simp at ho
   subst M;have e:qX s ύ=(DF {s with row:=d,gone:=g'} 4,o.1,7,ό):=by unfold qX;rw[hC];simp only[ho];rfl
   rw[e];refine(wA h J o T hC d g' ό ho).mono ?_;rintro e w' ⟨rfl,H,I⟩;exact⟨rfl,vo,H,I⟩
  | false=>
   cases acc with
   | true=>
    have e:qX s ό=({s with C:=T,W:=s.W++[o],row:=d,gone:=g'},o.1,1,ό):=by unfold qX;rw[hC];simp only[ho];rfl
    rw[e];exact YN h J o T hC d g' ho
   | false=>
    have e:qX s ύ=({s with row:=d,gone:=g'},o.1,0,ό):=by unfold qX;rw[hC];simp only[ho];simp[hC]
    rw[e];refine(wA h J o T hC d g' ύ ho).mono ?_;rintro e w' ⟨rfl,H,I⟩;exact⟨rfl,vo,H,I⟩
end
def QZ (d:α) (p:Nat->α->Prop): ∀m,(∀i,i<m-> ∃c,p i c)-> ∃l:List α,l.length=m/\ ∀i,i<m->p i (l.getD i d)
 | 0,_=>⟨[],rfl,λi hi=>ϩ hi τ⟩
 | m+1,h=>by
  obtain⟨l,H,J⟩:=QZ d p m λi hi=>h i τ
  obtain⟨c,I⟩:=h m τ;refine⟨l++[c],by simp[H],λi hi=> ?_⟩;by_cases e:i<m
  ·have:=J i e;rw[ϒ] at this ⊢;rw[Θ τ];exact this
  ·obtain rfl:i=m:=by omega
   rw[ϒ,Γ τ,H]
   simpa using I
def Q0: ∀(css:List (List Value)),(∀c∈css,c.length=n)->css.flatten.length=css.length* n
 | [],_=>by simp
 | c::css,h=>by
  rw[D5,Ϗ,Q0 css λd H=>h d (by simp[H]),h c η,ϙ,G4];omega
def Ox: ∀(css:List (List Value)) (i j:Nat),(∀c∈css,c.length=n)->i<css.length->j<n->css.flatten[i* n+j]? =(css.getD i [])[j]?
 | [],_,_,_,h,_=>ϩ h η
 | c::css,0,j,hl,_,hj=>by
  have:=hl c η;rw[D5,N3,E9,Θ τ];rfl
 | c::css,i+1,j,hl,hi,hj=>by
  have d:=hl c η;rw[D5,Γ (by rw[d,G4];omega),d,show (i+1)* n+j-n=i* n+j by rw[G4];omega];exact Ox css i j (λH I=>hl H (by simp[I])) (by simpa using hi) hj
def ym {P:Program} (aa w:World) {ops:Array Oper} {rest:List Oper} {o:Oper} {a:Act} {Q:Exit->Act->World->Prop} (ao:o.guard=ϋ) (s x:Operand) (t:TypeId)
  (ar:o.op= .call {callee:= .builtin .append,args:= #[s,x],argTypes:= #[t,t]})
  (base:Nat) (e:TypeId) (i:TypeInfo) (z:Value) (n bytes:Nat) (aw:P.underlying t=ϊ (.slice e)) (hi:P.info? e=ϊ i) (aX:i.zero=ϊ z)
  (aT:i.size=n) (aH:i.bytes=bytes) (aY:z.cells.size=n) (ak:0<n)
  {R:qL α} (aF:QQ R) (aS: ∀w cs y,R w cs y-> ∀u∈cs,u.oneCell'=ό)
  (v:Value) (L:List α) (Y:a.eval s=v) (au:je n R (λ_=>False) w base e v L)
  (ay:Value) (d:List α) (ax:a.eval x=ay) (aN:SlP n R aa ay d) (aq:ql aa w) (aW: ∀b,v.ownBlock=ϊ b->aa.heap.size<=b)
  (bb:1<=bytes) (aI:(L.length+d.length)* bytes<=140737488355328) (aG:base<=w.heap.size)
  (h: ∀v' w',je n R (λ_=>False) w' base e v' (L++d)->w.grownBy w' v.ownBlock->(v'.ownBlock=v.ownBlock∨v'.ownBlock=ϊ w.heap.size)->wpList P ops Q rest (a.put o.dst v') w'):wpList P ops Q (o::rest) a w:=by
 have aE:L.length+d.length<=maxLen:=by
  have:=J6 (L.length+d.length) (show 0<bytes by omega);unfold maxLen;omega
 obtain⟨aZ,cap,rfl,bd,aO,be,bf,aP⟩:=aN;obtain⟨⟨xs,af,aL⟩,ba⟩:=id au;cases aZ with
 | none=>
  have ai:cap=0:=aP rfl;subst ai;have aQ:d=[]:=Ϥ τ;subst aQ;refine wpList_append_own_none ao s x t ar base e i n aw hi v L.length xs Y af ax ?_;exact h v w (by simpa using au) ⟨rfl,rfl,rfl,ϔ _,λ_ _ _=>rfl⟩ (ϑ rfl)
 | some ad=>
  obtain⟨css,aK,ag⟩:=QZ ([]:List Value) (λk cs=> ∀H:k<d.length,∃b J,ad=⟨b,J,ϋ⟩/\b<aa.heap.size/\cs.length=n/\(∀j,j<n->aa.cell? ⟨b,J+k* n+j,ϋ⟩=cs[j]?)/\R aa cs d[k]) d.length (λk H=>by
   obtain⟨b,J,cs,az,aC,ab,aD,O⟩:=aO k H
   exact⟨cs,λ_=>⟨b,J,by injection az,aC,ab,aD,O⟩⟩)
  have ap: ∀c∈css,c.length=n:=λc ae=>by
   obtain⟨k,H,rfl⟩:=A0.1 ae;obtain⟨_,_,_,_,ab,_⟩:=ag k τ τ;rw[ϒ,ϖ H] at ab;exact ab
  have an:css.flatten.length=d.length* n:=by rw[Q0 css ap,aK]
  have am: ∀k j,k<d.length->j<n->css.flatten[k* n+j]? =(css.getD k [])[j]? :=λk j H N=>Ox css k j ap τ N
  refine wpList_append_own_at w ao s x t ar base e i z n bytes aw hi aX aT aH aY ak v L.length xs Y af ad d.length cap css.flatten ax an ?_ ?_ aE aI aG ?_
  ·intro j u N;have aM:j<d.length* n:=by rw[<-an];exact(ϟ.1 N).1
   have al:j/n<d.length:=by rw[T1 ak];exact aM
   have av:j%n<n:=J3 _ ak;have aB:j/n* n+j%n=j:=by rw[Nat.mul_comm];exact Nat.div_add_mod j n
   obtain⟨b,J,rfl,I,_,ae,_⟩:=ag _ al al;have aA:(⟨b,J,ϋ⟩:Addr).add j=⟨b,J+j,ϋ⟩:=by
    unfold Addr.add;split
    ·rename_i ai;subst ai;rfl
    ·rfl
   rw[aA,aq.cells b _ I,show J+j=J+j/n* n+j%n by omega,ae _ av,<-am _ _ al av,aB];exact N
  ·intro u aU;obtain⟨c,ae,aV⟩:=List.mem_flatten.1 aU;obtain⟨k,H,rfl⟩:=A0.1 ae;obtain⟨_,_,_,_,_,_,O⟩:=ag k τ τ;rw[ϒ,ϖ H] at O;exact aS _ _ _ O u aV
  ·intro v' w' aR M _ U;have aJ: ∀k (H:k<(L++d).length),jw R (λk=>False∨v.ownBlock=ϊ k) w (((xs++css.flatten).drop (k* n)).take n) (L++d)[k]:=by
    intro k H;rw[Ϗ] at H;by_cases e:k<L.length
    ·have bc:k* n+n<=L.length* n:=by
      have:(k+1)* n<=L.length* n:=A8 n e;rw[G4,O2] at this;exact this
     have bg:=af.1;have ah:((xs++css.flatten).drop (k* n)).take n=(xs.drop (k* n)).take n:=by
      rw[G5 τ,G6 (by rw[Ϣ];omega)]
     rw[ah,M8 e];exact aL k e
    ·have aj:k-L.length<d.length:=by omega
     obtain⟨_,_,_,_,ab,_,O⟩:=ag _ aj aj;have ah:((xs++css.flatten).drop (k* n)).take n=css.getD (k-L.length) []:=by
      apply K9;intro j;rw[ο];split
      ·rename_i N;rw[D0,<-am _ _ aj N,Γ (by rw[af.1];have:=A8 n (show L.length<=k by omega);omega),af.1]
       congr 1
       rw[Nat.sub_mul];have:=A8 n (show L.length<=k by omega);omega
      ·rename_i N;exact(M3.2 τ).symm
     rw[ah,List.getElem_append_right τ];exact(jw.old aF O (λb I=>by rcases I with I | I;exact ϩ I id;exact aW b I)).on aq
   refine h v' w' ⟨⟨xs++css.flatten,by rw[Ϗ];exact aR,λk H w'' a'=> ?_⟩,λ_ _=>id⟩ M U;refine aJ k H w'' ⟨a'.os.trans M.os,a'.tape.trans M.tape,a'.output.trans M.output,Ϙ M.size a'.size,λb I Y=> ?_⟩;rw[a'.block b (ϗ I M.size) ?_]
   ·exact M.block b I (λe=>Y (ϕ e.symm))
   ·rintro(ac | ac)
    ·exact Y (ϑ ac)
    ·rcases U with U | U
     ·exact Y (ϕ (by rw[<-U];exact ac))
     ·rw[U] at ac;have:w.heap.size=b:=by injection ac
      omega
def Ip: ∀(w:World) (cs:List Value) (y:Int×List Int),ROu w cs y-> ∀u∈cs,u.oneCell'=ό:=by
 rintro w cs y ⟨v,rfl,⟨H,cap,rfl,_⟩,_⟩ u d;simp at d;rcases d with rfl | rfl<;>rfl
def ED (w:World):je 2 ROu (λ_=>False) (w.alloc (.cells #[] 56)) w.heap.size 56 (δ (ϊ ⟨w.heap.size,0,ϋ⟩) 0 0) []:=
 ⟨⟨[],by simpa using World.ownsRow_lit (e:=56) (size:=2) (base:=w.heap.size) w #[] 0 (ϔ _) (by unfold maxLen;omega) rfl,λi hi=>by simp at hi⟩,λ_ _ h=>h⟩
def qbA (v:Value) (l:List (Int×List Int)) (w:World) (h:SlP 2 ROu w v l) (I:l.length<=1000000):
  Calls prog 108 #[v] w λe w'=>(∃v',e= .returned v'/\je 2 ROu (λ_=>False) w' w.heap.size 56 v' l)/\ql w w':=by
 obtain⟨ak,hi,ah,ai,aj⟩:=info_parts (P:=prog) (e:=56) (z:= Γs) (size:=2) (bytes:=32) ξ;have J:=κ h;have ac:=κ I;obtain⟨al,cap,rfl,M,N,O,U,d⟩:=h;cases al with
 | none=>
  obtain rfl:cap=0:=d rfl;obtain rfl:l=[]:=Ϥ τ;clear J M N O U d I;have ag:=λw=>Lib.run_eql_slice_nil (P:=prog) w 53 56 ϋ 0 0 0 0 underlying53
  go_enter func108,ntmps108
  go_wp2;go_ret;exact⟨⟨_,rfl,je.nil 2 ROu _ _ _ _⟩,ql.refl _⟩
 | some ad=>
  clear M N O U d I;have ag:=λw=>Lib.run_eql_slice_nil (P:=prog) w 53 56 (ϊ ad) l.length cap 0 0 underlying53
  go_enter func108,ntmps108
  go_wp2_with (at_builtin;refine ym w _ rfl (.tmp 5) (.tmp 6) 53 rfl w.heap.size 56 ak (Γs) 2 32 underlying53 hi ah ai aj rfl ζ Ff Ip _ [] rfl (ED w) _ l rfl J.o X8 (λb H=>by cases H;exact ϔ _) ζ (by have:=ac.o;simp;omega) (ql.alloc w _).size ?_;intro am w2 aa Y af;have ae:=κ aa;have ab:Hid (jt (λb=>(δ (ϊ ⟨w.heap.size,0,ϋ⟩) 0 0).ownBlock=ϊ b) (w.alloc (.cells #[] 56)) w2):=κ (jt.of_grown Y);clear aa Y af)
  go_ret;refine⟨⟨_,rfl,by simpa using ae.o⟩, ?_⟩;exact((jt.of_more (S:=λb=>b=w.heap.size) (ql.alloc w _)).trans (ab.o.mono λb H=>by injection H with e;exact e.symm)).to_more (ql.refl _) (λk e=>by rw[e];exact ϔ _)
def Bv {e m:Nat} (h:w.ownsRow base e n v m xs) (J:d<=base):w.ownsRow d e n v m xs:=by
 obtain⟨H,I⟩:=h;refine⟨H, ?_⟩;rcases I with h | ⟨g,cap,cur,e1,h3,h4⟩
 ·exact ϑ h
 ·exact ϕ ⟨g,cap,cur,e1,Ϙ J h3,h4⟩
def WP {S:Nat->Prop} {e m:Nat} (h:w.ownsRow base e n v m xs) (a:jt S w w') (I: ∀b,v.ownBlock=ϊ b-> ¬S b):w'.ownsRow base e n v m xs:=by
 obtain⟨d,H⟩:=h;refine⟨d, ?_⟩;rcases H with h | ⟨g,cap,cur,e1,h3,h4,h5⟩
 ·exact ϑ h
 ·exact ϕ ⟨g,cap,cur,e1,h3,a.blk h4 (I g (by rw[e1];rfl)),h5⟩
def zl (w0 w:World) (v:Value) (W:List (Int×List Int)) (j:Nat):Prop:=
 ∃xs,w.ownsRow w0.heap.size 56 2 v W.length xs/\ ∀i (hi:i<W.length),∃u,xs[i* 2]? =ϊ (.int .i64 (W[i].1))/\xs[i* 2+1]? =ϊ u/\
  (∀w',jt (λk=>v.ownBlock=ϊ k) w w'->SlI .u8 w' u (W[i].2))/\(Byt (W[i].2)/\W[i].2.length<=200)/\(i<j->(∀b,u.ownBlock=ϊ b->w0.heap.size<=b/\b<w.heap.size/\v.ownBlock≠ϊ b)/\w.ownsRow w0.heap.size 5 1 u (W[i].2).length ((W[i].2).map (Value.int .u8)))
def zl.start {D:Nat->Prop} (h:je 2 ROu D w I.heap.size 56 v W):zl I w v W 0:=by
 obtain⟨⟨xs,o,r⟩,_⟩:=h;refine⟨xs,o,λi hi=> ?_⟩;obtain⟨u,e,_,J,N⟩:=(r i hi).read;have e0:=ϵ (λl:List Value=>l[0]?) e;have H:=ϵ (λl:List Value=>l[1]?) e;simp at e0 H;refine⟨u,e0,H,λw' a=> ?_,⟨J,N⟩,λh=>ϩ h τ⟩;obtain⟨U,d,O,_⟩:=(r i hi) w' (a.mono λk M=>ϕ M);rw[e] at d;simp at d;rw[d];exact O
def zl.more (h:zl I w v W j) (m:ql w w'):zl I w' v W j:=by
 obtain⟨xs,o,r⟩:=h;refine⟨xs,zI o (S:=λ_=>False) (jt.of_more m) (λ_ _ h=>h),λi hi=> ?_⟩;obtain⟨u,J,M,N,O,d⟩:=r i hi;exact⟨u,J,M,λw'' a=>N w'' ((jt.of_more m).trans a),O,λh=>⟨λb H=>⟨((d h).1 b H).1,ϗ ((d h).1 b H).2.1 m.size,((d h).1 b H).2.2⟩,zI (d h).2 (S:=λ_=>False) (jt.of_more m) (λ_ _ h=>h)⟩⟩
def zl.shape {H:World} (h:zl H w v W j): ∃oa cap,v= δ oa W.length cap:=by
 obtain⟨xs,o,_⟩:=h;rcases o.2 with ⟨rfl,d⟩ | ⟨g,cap,cur,rfl,_⟩
 ·exact⟨ϋ,0,by rw[d]⟩
 ·exact⟨_,cap,rfl⟩
def zl.at {I:Option Addr} (h:zl J w (δ I n cap) W j) (Y:n=W.length) (i:Nat) (hi:i<W.length):
  ∃g,I=ϊ ⟨g,0,ϋ⟩/\J.heap.size<=g/\g<w.heap.size/\ ∃u,w.cell? ⟨g,i* 2,ϋ⟩=ϊ (ι (W[i].1))/\w.cell? ⟨g,i* 2+1,ϋ⟩=ϊ u/\w.frozen? ⟨g,i* 2+1,ϋ⟩=ύ/\SlI .u8 w u (W[i].2)/\Byt (W[i].2)/\W[i].2.length<=200:=by
 subst Y;obtain⟨xs,o,r⟩:=h;obtain⟨g,rfl,d,H⟩: ∃g,I=ϊ ⟨g,0,ϋ⟩/\J.heap.size<=g/\g<w.heap.size:=by
  rcases o.2 with ⟨_,aa⟩ | ⟨g,c,cur,e,d,H,_⟩
  ·omega
  ·injection e with e1
   exact⟨g,e1,d,lt_of_block H⟩
 obtain⟨u,M,N,O,U,_⟩:=r i hi;exact⟨g,rfl,d,H,u,by rw[o.cellAt _ τ];exact M,by rw[o.cellAt _ τ];exact N,o.frozenAt _,O w (jt.refl _ _),U⟩
def zl.put {M w1:World} {g:Nat} (h:zl M w (δ (ϊ ⟨g,0,ϋ⟩) n cap) W j) (ad:n=W.length) (ak:j<W.length) (m:ql w w1) (aj:g<w.heap.size) (O:M.heap.size<=w.heap.size) {u:Value}
  (H:w1.ownsRow w.heap.size 5 1 u (W[j].2).length ((W[j].2).map (Value.int .u8))):zl M (w1.setCell ⟨g,j* 2+1,ϋ⟩ u) (δ (ϊ ⟨g,0,ϋ⟩) n cap) W (j+1):=by
 subst ad;obtain⟨xs,o,r⟩:=h.more m;obtain⟨os,ae⟩:=o.stored (j* 2+1) u;have a:jt (λk=>ϊ g=ϊ k) w1 (w1.setCell ⟨g,j* 2+1,ϋ⟩ u):=jt.of_grown ae;have aa:(w1.setCell ⟨g,j* 2+1,ϋ⟩ u).heap.size=w1.heap.size:=by simp
 refine⟨_,os,λi hi=> ?_⟩;obtain⟨ai,U,ab,ac,Y,J⟩:=r i hi;have am:xs.length=W.length* 2:=o.1;by_cases e:i=j
 ·subst e;refine⟨u,by rw[J2 τ];exact U,by rw[R8 τ],λw' a'=> ?_,Y,λ_=>⟨λb d=>⟨Ϙ O (vV H d),by rw[aa];exact Vg H d,λI=> ?_⟩,Bv (zI H a (λb d e=> ?_)) O⟩⟩
  ·exact(SlI.of_owns H τ).off (D:=λk=>ϊ g=ϊ k) (λb d I=>by have:=vV H d;have N:g=b:=M9 I;omega) (a.trans a')
  ·have:=vV H d;have N:g=b:=M9 I;omega
  ·have N:g=b:=M9 e;omega
 ·refine⟨ai,by rw[J2 τ];exact U,by rw[J2 τ];exact ab,λw' a'=>ac w' (a.trans a'),Y,λal=>⟨λb d=> ?_,WP (J τ).2 a (λb d e=>((J τ).1 b d).2.2 e)⟩⟩;obtain⟨af,ag,ah⟩:=(J τ).1 b d;exact⟨af,by rw[aa];exact ag,ah⟩
def ROn (base:Nat):qL (Int×List Int):=λw cs o=> ∃v,cs=[.int .i64 o.1,v]/\SlI .u8 w v o.2/\Byt o.2/\o.2.length<=200/\(∀b,v.ownBlock=ϊ b->base<=b)/\w.ownsRow base 5 1 v o.2.length (o.2.map (Value.int .u8))
def zl.done (h:zl J w v W W.length):je 2 (ROn J.heap.size) (λb=>b<J.heap.size) w J.heap.size 56 v W:=by
 obtain⟨xs,o,r⟩:=h;refine⟨⟨xs,o,λi hi=> ?_⟩,λb H ad=>by have:=vV o H;omega⟩;obtain⟨u,O,U,Y,N,I⟩:=r i hi;have aa:(xs.drop (i* 2)).take 2=[ι (W[i].1),u]:=by
  apply K9;intro k
  match k with
  | 0=>simpa using O
  | 1=>simpa using U
  | k+2=>
   rw[I8 (by rw[Ϡ];omega),I8 η]
 intro w' a;refine⟨u,aa, ?_,N.1,N.2,λb H=>((I hi).1 b H).1,WP (I hi).2 a (λb H d=> ?_)⟩
 ·refine(Y w (jt.refl _ _)).off (λb H d=> ?_) a;obtain⟨ab,ac,M⟩:=(I hi).1 b H;rcases d with d | d
  ·omega
  ·exact M d
 ·obtain⟨ab,ac,M⟩:=(I hi).1 b H;rcases d with d | d
  ·omega
  ·exact M d
section
variable {N:Nat->Prop} {w w':World} {k:LnB} {vo:Value} {s:LnS}
def Ug (h:LnX N w k vo s) (ab:s.W.length<=1000000):Calls prog 48 #[γ k.L] w λe w'=>(∃v,e= .returned v/\je 2 (ROn w.heap.size) (λb=>b<w.heap.size) w' w.heap.size 56 v s.W)/\ql w w':=by
 have az:w.cell? ⟨k.L,0,ϋ⟩=ϊ vo:=qm h.blk 0 rfl;have ah:=κ (qbA vo s.W w (h.o.sl ζ) ab);have aA:(s.W.length:Int)<=9223372036854775807:=by omega
 clear h ab
 go_enter func48,ntmps48
 go_wp2_with (go_at_call 108;(go_call ah.o as e w1 ⟨⟨aH,rfl,U⟩,af⟩;have am:=κ (zl.start U);have ak:=κ af;obtain⟨av,cap,rfl⟩:=(zl.start U).shape;clear U af))
 go_loopw [12] (λM wr=> ∃j:Nat,j<=s.W.length/\M= ι j/\zl w wr (δ av s.W.length cap) s.W j/\ql w wr) (λM _=>s.W.length-(intOf M).toNat)
 case atStart=>exact⟨0,τ,rfl,am.o,ak.o⟩
 case round=>
  obtain⟨j,aB,rfl,ae,ad⟩:=hrel;have d:=κ ae;have I:=κ ad;clear ae ad;by_cases hlt:j<s.W.length
  ·have aC:(j:Int)<(s.W.length:Int):=by omega
   obtain⟨g,rfl,ac,ap,u,ax,ay,aG,J,ao,ar⟩:=d.o.at rfl j hlt;have Y:=κ ap;have aj:=κ ac;have ai:=κ (wQ u _ wr J τ);have au:w.heap.size<=wr.heap.size:=I.o.size;obtain⟨aw,an,rfl,_⟩:=id J;clear J ao ar ac ax
   go_wp2_with (go_at_call 50;(go_call ai.o as e ag ⟨⟨v3,rfl,O⟩,H⟩;have al:=κ O;have aa:=κ H;have aF:ag.cell? ⟨g,j* 2+1,ϋ⟩=ϊ (δ aw (s.W[j].2).length an):=(by rw[H.cells _ _ Y.o];exact ay);have p2:ag.frozen? ⟨g,j* 2+1,ϋ⟩=ύ:=((d.o.more H).at rfl j hlt |>.elim λg' aq=>by obtain⟨e,_,_,_,_,_,f,_⟩:=aq;injection e with e;injection e with e;subst e;exact f);obtain⟨aE,c4,rfl⟩:=zA O;clear O H))
   go_roundw
   case rel=>exact⟨j+1,τ,by go_num,d.o.put rfl hlt aa.o Y.o au al.o,(I.o.trans aa.o).st aj.o _⟩
   case measure=>simp[intOf];omega
  ·obtain rfl:j=s.W.length:=by omega
   have aD: ¬(s.W.length:Int)<(s.W.length:Int):=by omega
   go_wp2;go_ret;exact⟨⟨_,rfl,d.o.done⟩,I.o⟩
end
section
variable {N:Nat->Prop} {w:World} {L:Nat} {s:LnS}
def JB (h:zw N w L s):Calls prog 69 #[γ L] w λe w'=>e= .returned (μ s.gone)/\ql w w':=by
 obtain⟨k,vo,rfl,x⟩:=h;exact gF x
def Iv (h:zw N w L s) (n:Int) (d:n=1∨n=2∨n=3):Calls prog 74 #[γ L,ι n] w λe w'=>e= .returned (μ (vC s n))/\ql w w':=by
 obtain⟨k,vo,rfl,x⟩:=h;rcases d with rfl | rfl | rfl
 ·exact YA x
 ·exact Yz x
 ·exact Jy x
def ES (h:zw N w L s):Calls prog 68 #[γ L] w λe w'=>e= .returned (θ #[ι s.A.length,ι s.B.length,ι s.C.length])/\ql w w':=by
 obtain⟨k,vo,rfl,x⟩:=h;exact ER x
def Xb (h:zw N w L s):Calls prog 67 #[γ L] w λe w'=>e= .returned (.tuple #[θ #[ι s.cur,ι s.tgt],s.wanted])/\ql w w':=by
 obtain⟨k,vo,rfl,x⟩:=h;exact AJ x
def Ed (h:zw N w L s) (n:Int):Calls prog 91 #[γ L,ι n] w λe w'=>e= .returned (ι (jO s n).2)/\zw (xf N w w') w' L (jO s n).1/\jt N w w':=by
 obtain⟨k,vo,rfl,x⟩:=h;refine(Ec x n).mono ?_;rintro e w' ⟨rfl,d,H⟩;exact⟨rfl,⟨k,vo,rfl,d⟩,H⟩
def Df (h:zw N w L s):Calls prog 137 #[γ L] w λe w'=>e= .returned (.tuple #[ι (jf s).2.1,ι (jf s).2.2.1,μ (jf s).2.2.2])/\zw (xf N w w') w' L (jf s).1/\jt N w w':=by
 obtain⟨k,vo,rfl,x⟩:=h;refine(De x).mono ?_;rintro e w' ⟨rfl,d,H⟩;exact⟨rfl,⟨k,vo,rfl,d⟩,H⟩
def Uv (h:zw N w L s):Calls prog 138 #[γ L] w λe w'=>e= .returned (.tuple #[ι (qY s).2.1,μ (qY s).2.2.1,μ (qY s).2.2.2])/\zw (xf N w w') w' L (qY s).1/\jt N w w':=by
 obtain⟨k,vo,rfl,x⟩:=h;refine(Uu x).mono ?_;rintro e w' ⟨rfl,d,H⟩;exact⟨rfl,⟨k,vo,rfl,d⟩,H⟩
def As (h:zw N w L s) (I:s.W.length<=1000000) (acc:Bool):Calls prog 121 #[γ L,acc] w λe w'=>e= .returned (.tuple #[ι (qX s acc).2.1,ι (qX s acc).2.2.1,μ (qX s acc).2.2.2])/\zw (xf N w w') w' L (qX s acc).1/\jt N w w':=by
 obtain⟨k,vo,rfl,x⟩:=h;refine(Ar x I acc).mono ?_;rintro e w' ⟨rfl,vo',d,H⟩;exact⟨rfl,⟨k,vo',rfl,d⟩,H⟩
def Ij (h:zw N w L s) (x:ItS) (os I J:Option Addr) (H ke d:Nat) (Y:PkS w (δ os x.pk.ss.length H) (δ I x.pk.ex.length ke) (δ J x.pk.pl.length d) x.pk) (U:uf x.pk) (aa:uj x.pk):
  Calls prog 136 #[γ L,(Γj x os H I ke J d)] w λe w'=>e= .returned (.tuple #[ι (xp s x).2.1,μ (xp s x).2.2.1,ι (xp s x).2.2.2])/\zw (xf N w w') w' L (xp s x).1/\jt N w w':=by
 obtain⟨k,vo,rfl,ab⟩:=h;refine(Ii ab x os I J H ke d Y U aa).mono ?_;rintro e w' ⟨rfl,M,O⟩;exact⟨rfl,⟨k,vo,rfl,M⟩,O⟩
def Uh (h:zw N w L s) (d:s.W.length<=1000000):Calls prog 48 #[γ L] w λe w'=>(∃v,e= .returned v/\je 2 (ROn w.heap.size) (λb=>b<w.heap.size) w' w.heap.size 56 v s.W)/\ql w w':=by
 obtain⟨k,vo,rfl,x⟩:=h;exact Ug x d
end
end Go.Proofs.YtlmllmonabafjaaGreatDoor
