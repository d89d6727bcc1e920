/- own work: steps of the proof -/
import Derived.Handy
import GoSem.Claim
import Derived.Tactics
import Derived.KernelRfl
set_option linter.all false
namespace Go
def b0:=@if_neg
def b9:=@if_pos
def cD:=@List.take_of_length_le
def cR:=@List.getD_eq_getElem?_getD
def cV:=@Nat.le_of_ble_eq_true
def c7:=@Nat.le_refl
def c9:=@List.length_append
def ea:=@Nat.lt_or_ge
def ef:=@Nat.eq_of_beq_eq_true
def em:=@Option.ne_none_iff_exists'
def ew:=@List.length_cons
def ez:=@Result.andThen_ok
def fo:=@List.eq_nil_of_length_eq_zero
def gi:=@Nat.zero_le
def gr:=@UInt64.toNat_ofNat'
def hE:=@List.drop_eq_getElem_cons
def hP:=@List.getElem?_eq_some_iff
def hV:=@List.length_take
def hW:=@Sem.run_bind
def hX:=@List.map_cons
def hZ:=@List.mem_cons
def h5:=@Int.toNat_natCast
def ie:=@Nat.mod_eq_of_lt
def ix:=@List.getElem_mem
def iy:=@Nat.mul_le_mul_right
def i0:=@Int.eq_ofNat_of_zero_le
def kc:=@Array.getD_eq_getD_getElem?
def km:=@List.length_nil
def kK:=@List.length_drop
def lh:=@Sem.run_pure
def l0:=@List.getElem?_take
def l1:=@Bool.eq_false_or_eq_true
def l2:=@List.drop_eq_nil_of_le
def ms:=@Nat.add_sub_cancel_left
def nk:=@List.mem_cons_of_mem
def nw:=@UInt8.toNat_ofNat'
def nL:=@Option.map_eq_some_iff
def n0:=@List.getElem?_eq_getElem
def n4:=@List.mem_singleton
def oy:=@Nat.le_add_right
def o1:=@List.mem_append
def o4:=@List.mem_map
def p4:=@decide_eq_false
def qi:=@decide_eq_true
def qs:=@run_underlying
def su:=@of_decide_eq_true
def sy:=@eq_true
def s5:=@absurd
def s6:=@List.flatMap_cons
def s7:=@List.foldl_cons
def s8:=@List.take_succ_eq_append_getElem
def s9:=@UInt64.toNat_inj
def vx:=@List.pairwise_cons
theorem wa{p q:Prop}(k:q)(e:q->p:=by intro zk;refine⟨a,X,left,h2.mono ω,?_⟩;exact zk):p:=e k
theorem wi{p q:Prop}(k:q)(e:q->p:=by intro zk;simp only[go_sem,J];refine⟨π,?_⟩;exact zk):p:=e k
theorem ajZ{p q:Prop}(k:q)(e:q->p:=by intro zk;simp only[go_sem,J,a,(ω:¬(((t.length+11:Nat):Int)=11)),(ω:(((t.length+11:Nat):Int)=204)),d];apply aa Z s;simp only[go_sem,J,bO,a,d];refine⟨ω,ω,ω,π,⟨ω,ω⟩,?_⟩;rw[C,p];apply aa Z o;exact zk):p:=e k
theorem aj0{p q:Prop}(k:q)(e:q->p:=by intro zk;refine⟨a,x,left,h1.mono ω,?_⟩;apply ba f74 ajd;exact zk):p:=e k
theorem aj1{p q:Prop}(k:q)(e:q->p:=by intro zk;refine x_k Z 2 g ?_;simp only[go_sem,J,(ω:¬((m:Int)>=512))];exact zk):p:=e k
theorem aj2{p q:Prop}(k:q)(e:q->p:=by intro zk;refine bm h0 hj (aA [0,1,2,4] rfl κ ?_ rfl rfl (cV rfl));simp only[go_sem,true_and,and_true];exact zk):p:=e k
theorem aj3{p q:Prop}(k:q)(e:q->p:=by intro zk;refine⟨g,X,left,h2.mono ω,?_⟩;exact zk):p:=e k
theorem aj4{p q:Prop}(k:q)(e:q->p:=by intro zk;simp only[go_sem,J,(ω:¬((m:Int)>=512)),(ω:¬(d>8)),(ω:¬((n.toNat:Int)>1024)),j,k,(ω:¬(((B.length-q:Nat):Int)<(n.toNat:Int))),w1,l,a];exact zk):p:=e k
theorem aj5{p q:Prop}(k:q)(e:q->p:=by intro zk;simp only[go_sem,J,hz,decide_true,decide_false,not_true,not_false_eq_true];exact zk):p:=e k
theorem aj6{p q:Prop}(k:q)(e:q->p:=by intro zk;refine⟨π,⟨ω,ω,ω⟩,π,?_⟩;exact zk):p:=e k
theorem aj7{p q:Prop}(k:q)(e:q->p:=by intro zk;simp only[go_sem,J];apply aa Z w1;simp only[go_sem,J];apply aa Z a;simp only[go_sem,J,g];apply aa Z b;simp only[go_sem,J];exact zk):p:=e k
theorem aj8{p q:Prop}(k:q)(e:q->p:=by intro zk;refine⟨⟨ω,ω⟩,?_⟩;exact zk):p:=e k
theorem aj9{p q:Prop}(k:q)(e:q->p:=by intro zk;simp only[go_sem,J,l];apply ay Y s ajt 0 (fun i=>⟨186,[(2,.p (.data 1 n (id.map bt))),(6,.i B),(7,.ptr 0 0),(8,.ptr 1 0),(14,.ptr 2 0),(17,blA E0),(19,.ptr 3 0),(20,.i (-1)),(21,.i 0),(25,.i 7)],raH g d x t,4⟩) [] (fun i=>i) ⟨rfl,κ,κ,rfl,rfl,trivial,fun i h=>h⟩;exact zk):p:=e k
theorem aka{p q:Prop}(k:q)(e:q->p:=by intro zk;refine ajZ ?_;simp only[go_sem,J,q,a,Nat.reduceSub];refine⟨ω,?_⟩;apply aa Z v;simp only[go_sem,J,a,d,Nat.reduceSub];refine⟨ω,π,?_⟩;exact zk):p:=e k
theorem akb{p q:Prop}(k:q)(e:q->p:=by intro zk;refine⟨⟨ω,ω⟩,ω,?_⟩;exact zk):p:=e k
theorem akc{p q:Prop}(k:q)(e:q->p:=by intro zk;apply ay Y s ajt 0 (fun i=>⟨186,[(2,.p (.data 1 n (id.map bt))),(6,.i B),(7,.ptr 0 0),(8,.ptr 1 0),(14,.ptr 2 0),(17,blA E0),(19,.ptr 3 0),(20,.i (-1)),(21,.i 0),(22,.i 7)],raH g d x t,4⟩) [] (fun i=>i) ⟨rfl,κ,κ,rfl,rfl,trivial,fun i h=>h⟩;exact zk):p:=e k
theorem akd{p q:Prop}(k:q)(e:q->p:=by intro zk;simp only[go_sem,J,e,w1,g];apply aa Z h1;simp only[go_sem,J,e,w1,g];apply aa Z h2;simp only[go_sem,J,e,w1,g];apply aa Z E;exact zk):p:=e k
theorem ake{p q:Prop}(k:q)(e:q->p:=by intro zk;simp only[go_sem,J,m,(ω:((i:Int)>=0)),b];apply aa Z o;exact zk):p:=e k
theorem akf{p q:Prop}(k:q)(e:q->p:=by intro zk;refine⟨q,r',q1,q2,?_⟩;refine en Tryz.func82 Tryz.ntmps82 Tryz.results82 aiZ ?_;exact zk):p:=e k
theorem akg{p q:Prop}(k:q)(e:q->p:=by intro zk;refine⟨rfl,?_,trivial,rfl,rfl,trivial,fun i h=>h⟩;exact zk):p:=e k
theorem akh{p q:Prop}(k:q)(e:q->p:=by intro zk;simp only[go_sem,J];refine x_k Z 2 d ?_;exact zk):p:=e k
theorem aki{p q:Prop}(k:q)(e:q->p:=by intro zk;simp only[go_sem,J,j,(ω:¬(((t.length+2:Nat):Int)<2))];refine aj8 ?_;rw[(ω:t.length+2-2=t.length),List.take_length];apply aa Z o;exact zk):p:=e k
theorem akj{p q:Prop}(k:q)(e:q->p:=by intro zk;simp only[go_sem,J,h,(ω:¬((0:Int)>0))];apply wF Y (ks:=ajq) (n:=2000) 1 (by rw[J];exact QW n ω) rfl rfl (by simp[ax,ak,keys]) (by simp[bV,ak,ax]);simp only[go_sem,J,k,vb,KW n h1];refine⟨⟨ω,ω⟩,h1,?_⟩;exact zk):p:=e k
theorem akk{p q:Prop}(k:q)(e:q->p:=by intro zk;simp only[go_sem,J,(ω:¬((i:Int)<(l.length:Int))),s];refine⟨⟨tm+1,ω,ω,hc⟩,by dsimp only;omega,?_⟩;exact zk):p:=e k
theorem akl{p q:Prop}(k:q)(e:q->p:=by intro zk;simp only[go_sem,J,hz6,decide_true,decide_false,not_true,not_false_eq_true];exact zk):p:=e k
theorem akm{p q:Prop}(k:q)(e:q->p:=by intro zk;simp only[go_sem,J,(ω:((m:Int)>=512))];exact zk):p:=e k
theorem akn{p q:Prop}(k:q)(e:q->p:=by intro zk;apply ba f138 [0,2,3,4,5,6,14,34,42,66];exact zk):p:=e k
theorem ako{p q:Prop}(k:q)(e:q->p:=by intro zk;apply ba f226 [0,1,2,4,20,30,34,49,53];exact zk):p:=e k
theorem akp{p q:Prop}(k:q)(e:q->p:=by intro zk;simp only[go_sem,J,(ω:¬e>=512),(ω:¬a>8)];apply aa Z f;exact zk):p:=e k
theorem akq{p q:Prop}(k:q)(e:q->p:=by intro zk;simp only[go_sem,J,decide_true,decide_false,not_true,not_false_eq_true];exact zk):p:=e k
theorem akr{p q:Prop}(k:q)(e:q->p:=by intro zk;refine x_w Z k3 ?_;simp only[go_sem,J,hz];exact zk):p:=e k
theorem aks{p q:Prop}(k:q)(e:q->p:=by intro zk;rw[ab (n:=10*((List.length now:Nat):Int)) ω ω,ab (n:=16+10*((List.length now:Nat):Int)) ω ω,ab (n:=16+10*((List.length now:Nat):Int)+((szM now:Nat):Int)) ω ω];refine⟨π,?_⟩;exact zk):p:=e k
theorem akt{p q:Prop}(k:q)(e:q->p:=by intro zk;refine aj1 ?_;apply aa Z d;simp only[go_sem,J,show¬(b>8) from h,(ω:¬((n.toNat:Int)>1024)),u,v,(ω:¬(((B.length-q:Nat):Int)<(n.toNat:Int))),w1,A,f];refine aj6 ?_;apply aa Z hv;exact zk):p:=e k
theorem aku{p q:Prop}(k:q)(e:q->p:=by intro zk;refine wa ?_;apply ba f132 ajR;exact zk):p:=e k
theorem akv{p q:Prop}(k:q)(e:q->p:=by intro zk;simp only[go_sem,List.take_zero];exact zk):p:=e k
theorem akw{p q:Prop}(k:q)(e:q->p:=by intro zk;simp only[go_sem,J,(ω:¬((i:Int)<(i:Int)))];exact zk):p:=e k
theorem akx{p q:Prop}(k:q)(e:q->p:=by intro zk;simp only[go_sem,J,sy hlt,hat,hw,hta];refine⟨ω,⟨i+1,ω,d⟩,by dsimp only;omega,?_⟩;exact zk):p:=e k
theorem aky{p q:Prop}(k:q)(e:q->p:=by intro zk;simp only[go_sem,J];apply aa Z hv;simp only[go_sem,J];exact zk):p:=e k
theorem akz{p q:Prop}(k:q)(e:q->p:=by intro zk;simp only[go_sem,J,u,xtP,(ω:¬((at':Int)>=(n:Int)))];refine aj8 ?_;apply aa Z L;exact zk):p:=e k
theorem akA{p q:Prop}(k:q)(e:q->p:=by intro zk;refine akh ?_;simp only[go_sem,J,(ω:¬((m:Int)>=512)),show(a>8) from b];exact zk):p:=e k
theorem akB{p q:Prop}(k:q)(e:q->p:=by intro zk;refine aj3 ?_;apply ba f125 ai6;exact zk):p:=e k
theorem akC{p q:Prop}(k:q)(e:q->p:=by intro zk;refine x_k Z 2 j ?_;simp only[go_sem,J,(ω:¬((m:Int)>=512)),a.1,a.2.1,a.2.2.1,a.2.2.2];exact zk):p:=e k
theorem akD{p q:Prop}(k:q)(e:q->p:=by intro zk;refine⟨9,ε,?_⟩;apply ba f189 [0,1,2,3,34,45];exact zk):p:=e k
theorem akE{p q:Prop}(k:q)(e:q->p:=by intro zk;refine wa ?_;apply ba f136 ajN;exact zk):p:=e k
theorem akF{p q:Prop}(k:q)(e:q->p:=by intro zk;refine⟨cr0,0,0,2,fun c=>(by cases c),?_⟩;apply ba f224 [0,2,3,4,5,6,7,10,19,35];exact zk):p:=e k
theorem akG{p q:Prop}(k:q)(e:q->p:=by intro zk;simp only[go_sem,J,k];apply aa Z h1;exact zk):p:=e k
theorem akH{p q:Prop}(k:q)(e:q->p:=by intro zk;simp only[go_sem,J,(ω:¬((m:Int)>=512)),(ω:¬(d>8)),a.1,a.2.1,a.2.2.1,a.2.2.2];exact zk):p:=e k
theorem akI{p q:Prop}(k:q)(e:q->p:=by intro zk;refine x_k Z 2 (nD t a e) ?_;simp only[go_sem,J];refine x_k Z 2 hs ?_;simp only[go_sem,J];exact zk):p:=e k
theorem akJ{p q:Prop}(k:q)(e:q->p:=by intro zk;refine wa ?_;apply ba f131 aje;exact zk):p:=e k
theorem akK{p q:Prop}(k:q)(e:q->p:=by intro zk;refine aj3 ?_;apply ba f126 ajb;exact zk):p:=e k
theorem akL{p q:Prop}(k:q)(e:q->p:=by intro zk;apply gH;apply iI;apply js;apply kE;apply mz;exact zk):p:=e k
theorem akM{p q:Prop}(k:q)(e:q->p:=by intro zk;simp only[go_sem,J,g,decide_true,decide_false,not_true,not_false_eq_true];exact zk):p:=e k
theorem akN{p q:Prop}(k:q)(e:q->p:=by intro zk;simp only[go_sem,J];refine x_k Z 2 g ?_;exact zk):p:=e k
theorem akO{p q:Prop}(k:q)(e:q->p:=by intro zk;apply aa Z s;simp only[go_sem,J,bO];refine⟨π,?_⟩;apply aa Z (tS hv);exact zk):p:=e k
theorem akP{p q:Prop}(k:q)(e:q->p:=by intro zk;simp only[go_sem,J,o,z,m,j];apply aa Z G;simp only[go_sem,J,B,D,xtP];refine aj8 ?_;apply aa Z U;simp only[go_sem,J,j];apply aa Z A;exact zk):p:=e k
theorem akQ{p q:Prop}(k:q)(e:q->p:=by intro zk;simp only[go_sem,J];refine x_b Z hb ?_;exact zk):p:=e k
theorem akR{p q:Prop}(k:q)(e:q->p:=by intro zk;simp only[go_sem,J,(ω:¬(now<0)),(ω:¬(now>1099511627776)),w1,w30];exact zk):p:=e k
theorem akS{p q:Prop}(k:q)(e:q->p:=by intro zk;apply ba f144 [0,1,2,3,6,7,8,9,15,19,23];exact zk):p:=e k
theorem akT{p q:Prop}(k:q)(e:q->p:=by intro zk;refine x_w Z o ?_;simp only[go_sem,J];apply aa Z hpu;simp only[go_sem,J];refine x_w Z q3 ?_;simp only[go_sem,J,l];exact zk):p:=e k
theorem akU{p q:Prop}(k:q)(e:q->p:=by intro zk;refine⟨⟨i+1,ω,d⟩,by dsimp only;omega,?_⟩;exact zk):p:=e k
theorem akV{p q:Prop}(k:q)(e:q->p:=by intro zk;simp only[go_sem,J,y,A,crP,cK];refine⟨ω,ω,ω,ω,?_⟩;apply aa Z B;refine wi ?_;apply aa Z m;simp only[go_sem,J,hN,l];exact zk):p:=e k
theorem akW{p q:Prop}(k:q)(e:q->p:=by intro zk;simp only[go_sem,J];apply aa Z h2;exact zk):p:=e k
theorem akX{p q:Prop}(k:q)(e:q->p:=by intro zk;refine wa ?_;apply ba f127 ajO;exact zk):p:=e k
theorem akY{p q:Prop}(k:q)(e:q->p:=by intro zk;refine x_w Z t ?_;simp only[go_sem,J];apply aa Z hp;simp only[go_sem,J,hs];exact zk):p:=e k
theorem akZ{p q:Prop}(k:q)(e:q->p:=by intro zk;apply aa Z j;simp only[go_sem,J];exact zk):p:=e k
theorem ak0{p q:Prop}(k:q)(e:q->p:=by intro zk;refine⟨⟨ω,ω,ω⟩,π,?_⟩;exact zk):p:=e k
theorem ak1{p q:Prop}(k:q)(e:q->p:=by intro zk;simp only[go_sem,J];apply aa Z u;simp only[go_sem,J];exact zk):p:=e k
theorem ak2{p q:Prop}(k:q)(e:q->p:=by intro zk;refine x_k Z 2 h ?_;simp only[go_sem,J,(ω:¬((m:Int)>=512))];exact zk):p:=e k
theorem ak3{p q:Prop}(k:q)(e:q->p:=by intro zk;simp only[go_sem,J,(ω:((i:Int)<(n:Int))),bC,byP];refine⟨ω,ω,?_⟩;apply aa Z o;refine wi ?_;apply aa Z s;exact zk):p:=e k
theorem ak4{p q:Prop}(k:q)(e:q->p:=by intro zk;refine FS.ext' rfl (fun s=>?_) (fun _=>rfl) (fun _=>Iff.rfl);exact zk):p:=e k
theorem ak5{p q:Prop}(k:q)(e:q->p:=by intro zk;apply sE;apply uS;apply xE;apply BF;apply F4;exact zk):p:=e k
theorem ak6{p q:Prop}(k:q)(e:q->p:=by intro zk;simp only[go_sem,J];apply aa Z h;simp only[go_sem,J];exact zk):p:=e k
theorem ak7{p q:Prop}(k:q)(e:q->p:=by intro zk;apply lu;apply mB;apply oI;apply uR;apply zx;exact zk):p:=e k
theorem ak8{p q:Prop}(k:q)(e:q->p:=by intro zk;apply ba f306 [0,2,3,4,5,6,7,8,9,22];exact zk):p:=e k
theorem ak9{p q:Prop}(k:q)(e:q->p:=by intro zk;unfold gb;simp only[g,hv,ne_eq,not_true_eq_false,if_false,h5,Nat.mul_div_cancel_left k (show 0<p by omega)];exact zk):p:=e k
theorem ala{p q:Prop}(k:q)(e:q->p:=by intro zk;refine⟨ω,ω,?_⟩;apply aa Z hfi;simp only[go_sem,J,hil,bC,byP];refine⟨π,ω,ω,?_⟩;apply aa Z hnu;exact zk):p:=e k
theorem alb{p q:Prop}(k:q)(e:q->p:=by intro zk;apply aa Z d;simp only[go_sem,J];exact zk):p:=e k
theorem alc{p q:Prop}(k:q)(e:q->p:=by intro zk;simp only[go_sem,J,show IntKind.i64.wrap (0+1)=1 from ε];exact zk):p:=e k
theorem ald{p q:Prop}(k:q)(e:q->p:=by intro zk;refine⟨0,0,0,0,0,[],0,0,2,.inl rfl,?_⟩;exact zk):p:=e k
theorem ale{p q:Prop}(k:q)(e:q->p:=by intro zk;refine wa ?_;apply ba f130 ajg;exact zk):p:=e k
theorem alf{p q:Prop}(k:q)(e:q->p:=by intro zk;simp only[go_sem];rw[cD η,aJ];show SAW _ _ _;refine bm h0 hj (aA [0,1,2] rfl κ ?_ rfl rfl (cV rfl));exact zk):p:=e k
theorem alg{p q:Prop}(k:q)(e:q->p:=by intro zk;simp only[go_sem,J,a,h1,m];apply aa Z hs;simp only[go_sem,J,j];refine⟨π,?_⟩;refine x_k Z 1 g ?_;exact zk):p:=e k
theorem alh{p q:Prop}(k:q)(e:q->p:=by intro zk;refine akh ?_;simp only[go_sem,J,(ω:¬((m:Int)>=512)),show¬(a>8) from b,(ω:((n.toNat:Int)>1024))];exact zk):p:=e k
theorem ali{p q:Prop}(k:q)(e:q->p:=by intro zk;apply aa Z g3;simp only[go_sem,J,(ω:¬((b3.length:Int)=0))];apply aa Z i;refine wi ?_;apply aa Z g4;exact zk):p:=e k
theorem alj{p q:Prop}(k:q)(e:q->p:=by intro zk;refine x_w Z m ?_;simp only[go_sem,J];exact zk):p:=e k
theorem alk{p q:Prop}(k:q)(e:q->p:=by intro zk;simp only[go_sem,J,a,(ω:((i:Int)<16))];apply aa Z l;simp only[go_sem,J,f,decide_true];apply aa Z q;exact zk):p:=e k
theorem alm{p q:Prop}(k:q)(e:q->p:=by intro zk;refine akh ?_;simp only[go_sem,J,(ω:¬((m:Int)>=512)),show¬(a>8) from b,(ω:((n.toNat:Int)>512))];exact zk):p:=e k
theorem aln{p q:Prop}(k:q)(e:q->p:=by intro zk;unfold World.freeze;rw[b0 ε];exact zk):p:=e k
theorem alo{p q:Prop}(k:q)(e:q->p:=by intro zk;simp only[go_sem];rw[cD (by rw[jA];exact Nat.le_of_eq (congrArg (·*3) a.len))];simp only[go_sem];exact zk):p:=e k
theorem alp{p q:Prop}(k:q)(e:q->p:=by intro zk;simp only[go_sem,J,a,crP,cK,sy q,(ω:((i:Int)<(l.length:Int)))];refine⟨ω,ω,?_⟩;apply aa Z o;exact zk):p:=e k
theorem alq{p q:Prop}(k:q)(e:q->p:=by intro zk;simp only[go_sem,J];refine aj1 ?_;exact zk):p:=e k
theorem alr{p q:Prop}(k:q)(e:q->p:=by intro zk;simp only[go_sem,J];apply aa Z g;exact zk):p:=e k
theorem als{p q:Prop}(k:q)(e:q->p:=by intro zk;apply aa Z b;simp only[go_sem,J];exact zk):p:=e k
theorem alt{p q:Prop}(k:q)(e:q->p:=by intro zk;simp only[go_sem,J];refine x_k Z 3 hh ?_;simp only[go_sem,J];refine x_k Z 3 ha ?_;exact zk):p:=e k
theorem alu{p q:Prop}(k:q)(e:q->p:=by intro zk;apply aa Z l;simp only[go_sem,J];apply aa Z o;simp only[go_sem,J];refine x_f Z (bI rh) ?_;simp only[go_sem,J];apply aa Z ho;simp only[go_sem,J,B];exact zk):p:=e k
theorem alv{p q:Prop}(k:q)(e:q->p:=by intro zk;simp only[go_sem,J,hy];apply aa Z hrp;simp only[go_sem,J];apply aa Z hus;simp only[go_sem,J];apply aa Z htx;simp only[go_sem,J];apply aa Z hwb;exact zk):p:=e k
theorem alw{p q:Prop}(k:q)(e:q->p:=by intro zk;simp only[go_sem,J,h1];refine akZ ?_;apply aa Z s;simp only[go_sem,J,t];refine x_w Z g ?_;simp only[go_sem,J];apply aa Z D;simp only[go_sem,J];exact zk):p:=e k
theorem alx{p q:Prop}(k:q)(e:q->p:=by intro zk;simp only[go_sem,J];simp only[dl,dX];exact zk):p:=e k
theorem aly{p q:Prop}(k:q)(e:q->p:=by intro zk;simp only[go_sem,J];apply aa Z B;simp only[go_sem,J];exact zk):p:=e k
theorem alz{p q:Prop}(k:q)(e:q->p:=by intro zk;apply aa Z hv;simp only[go_sem,J];exact zk):p:=e k
theorem alA{p q:Prop}(k:q)(e:q->p:=by intro zk;simp only[go_sem,J];refine x_k Z 2 Q ?_;simp only[go_sem,J,(ω:¬((m:Int)>=512)),(ω:¬(a>8)),hNe,A];refine aj6 ?_;exact zk):p:=e k
theorem alB{p q:Prop}(k:q)(e:q->p:=by intro zk;simp only[go_sem,J];refine akZ ?_;apply aa Z l;simp only[go_sem,J,u];apply aa Z F;refine wi ?_;refine x_w Z A ?_;exact zk):p:=e k
theorem alC{p q:Prop}(k:q)(e:q->p:=by intro zk;refine x_w Z u ?_;simp only[go_sem,J];exact zk):p:=e k
theorem alD{p q:Prop}(k:q)(e:q->p:=by intro zk;simp only[go_sem,J];apply aa Z hv;simp only[go_sem,J,j];exact zk):p:=e k
