/- own work: steps of the proof -/
import Derived.Handy
import GoSem.Claim
import Derived.Tactics
import Derived.KernelRfl
set_option linter.all false
namespace Go
def b0:=@if_neg
def b9:=@if_pos
def cD:=@List.take_of_length_le
def cR:=@List.getD_eq_getElem?_getD
def cV:=@Nat.le_of_ble_eq_true
def c7:=@Nat.le_refl
def c9:=@List.length_append
def ea:=@Nat.lt_or_ge
def ef:=@Nat.eq_of_beq_eq_true
def em:=@Option.ne_none_iff_exists'
def ew:=@List.length_cons
def ez:=@Result.andThen_ok
def fo:=@List.eq_nil_of_length_eq_zero
def gi:=@Nat.zero_le
def gr:=@UInt64.toNat_ofNat'
def hE:=@List.drop_eq_getElem_cons
def hP:=@List.getElem?_eq_some_iff
def hV:=@List.length_take
def hW:=@Sem.run_bind
def hX:=@List.map_cons
def hZ:=@List.mem_cons
def h5:=@Int.toNat_natCast
def ie:=@Nat.mod_eq_of_lt
def ix:=@List.getElem_mem
def iy:=@Nat.mul_le_mul_right
def i0:=@Int.eq_ofNat_of_zero_le
def kc:=@Array.getD_eq_getD_getElem?
def km:=@List.length_nil
def kK:=@List.length_drop
def lh:=@Sem.run_pure
def l0:=@List.getElem?_take
def l1:=@Bool.eq_false_or_eq_true
def l2:=@List.drop_eq_nil_of_le
def ms:=@Nat.add_sub_cancel_left
def nk:=@List.mem_cons_of_mem
def nw:=@UInt8.toNat_ofNat'
def nL:=@Option.map_eq_some_iff
def n0:=@List.getElem?_eq_getElem
def n4:=@List.mem_singleton
def oy:=@Nat.le_add_right
def o1:=@List.mem_append
def o4:=@List.mem_map
def p4:=@decide_eq_false
def qi:=@decide_eq_true
def qs:=@run_underlying
def su:=@of_decide_eq_true
def sy:=@eq_true
def s5:=@absurd
def s6:=@List.flatMap_cons
def s7:=@List.foldl_cons
def s8:=@List.take_succ_eq_append_getElem
def s9:=@UInt64.toNat_inj
def vx:=@List.pairwise_cons
section
variable{p q:Prop}
def wa(k:q)(e:q->p:=by intro zk;refine⟨a,X,left,h2.mono ω,?_⟩;exact zk):=e k
def wi(k:q)(e:q->p:=by intro zk;simp only[go_sem,J];refine⟨π,?_⟩;exact zk):=e k
def ajZ(k:q)(e:q->p:=by intro zk;simp only[go_sem,J,a,(ω:¬(((t.length+11:Nat):Int)=11)),(ω:(((t.length+11:Nat):Int)=204)),d];apply aa Z s;simp only[go_sem,J,bO,a,d];refine⟨ω,ω,ω,π,⟨ω,ω⟩,?_⟩;rw[C,p];apply aa Z o;exact zk):=e k
def aj0(k:q)(e:q->p:=by intro zk;refine⟨a,x,left,h1.mono ω,?_⟩;apply ba f129 ajd;exact zk):=e k
def aj1(k:q)(e:q->p:=by intro zk;refine x_k Z 2 g ?_;simp only[go_sem,J,(ω:¬((m:Int)>=512))];exact zk):=e k
def aj2(k:q)(e:q->p:=by intro zk;refine bm h0 hj (aA [0,1,2,4] rfl κ ?_ rfl rfl (cV rfl));simp only[go_sem,true_and,and_true];exact zk):=e k
def aj3(k:q)(e:q->p:=by intro zk;refine⟨g,X,left,h2.mono ω,?_⟩;exact zk):=e k
def aj4(k:q)(e:q->p:=by intro zk;simp only[go_sem,J,(ω:¬((m:Int)>=512)),(ω:¬(d>8)),(ω:¬((n.toNat:Int)>1024)),j,k,(ω:¬(((B.length-q:Nat):Int)<(n.toNat:Int))),w1,l,a];exact zk):=e k
def aj5(k:q)(e:q->p:=by intro zk;simp only[go_sem,J,hz,decide_true,decide_false,not_true,not_false_eq_true];exact zk):=e k
def aj6(k:q)(e:q->p:=by intro zk;refine⟨π,⟨ω,ω,ω⟩,π,?_⟩;exact zk):=e k
def aj7(k:q)(e:q->p:=by intro zk;simp only[go_sem,J];apply aa Z w1;simp only[go_sem,J];apply aa Z a;simp only[go_sem,J,g];apply aa Z b;simp only[go_sem,J];exact zk):=e k
def aj8(k:q)(e:q->p:=by intro zk;refine⟨⟨ω,ω⟩,?_⟩;exact zk):=e k
def aj9(k:q)(e:q->p:=by intro zk;simp only[go_sem,J,l];apply ay Y s ajt 0 (fun i=>⟨186,[(2,.p (.data 1 n (id.map bt))),(6,.i B),(7,.ptr 0 0),(8,.ptr 1 0),(14,.ptr 2 0),(17,blA E0),(19,.ptr 3 0),(20,.i (-1)),(21,.i 0),(25,.i 7)],raH g d x t,4⟩) [] (fun i=>i) ⟨rfl,κ,κ,rfl,rfl,trivial,fun i h=>h⟩;exact zk):=e k
def aka(k:q)(e:q->p:=by intro zk;refine ajZ ?_;simp only[go_sem,J,q,a,Nat.reduceSub];refine⟨ω,?_⟩;apply aa Z v;simp only[go_sem,J,a,d,Nat.reduceSub];refine⟨ω,π,?_⟩;exact zk):=e k
def akb(k:q)(e:q->p:=by intro zk;refine⟨⟨ω,ω⟩,ω,?_⟩;exact zk):=e k
def akc(k:q)(e:q->p:=by intro zk;apply ay Y s ajt 0 (fun i=>⟨186,[(2,.p (.data 1 n (id.map bt))),(6,.i B),(7,.ptr 0 0),(8,.ptr 1 0),(14,.ptr 2 0),(17,blA E0),(19,.ptr 3 0),(20,.i (-1)),(21,.i 0),(22,.i 7)],raH g d x t,4⟩) [] (fun i=>i) ⟨rfl,κ,κ,rfl,rfl,trivial,fun i h=>h⟩;exact zk):=e k
def akd(k:q)(e:q->p:=by intro zk;simp only[go_sem,J,e,w1,g];apply aa Z h1;simp only[go_sem,J,e,w1,g];apply aa Z h2;simp only[go_sem,J,e,w1,g];apply aa Z E;exact zk):=e k
def ake(k:q)(e:q->p:=by intro zk;simp only[go_sem,J,m,(ω:((i:Int)>=0)),b];apply aa Z o;exact zk):=e k
def akf(k:q)(e:q->p:=by intro zk;refine⟨q,r',q1,q2,?_⟩;refine en Tryz.func136 Tryz.ntmps136 Tryz.results136 aiZ ?_;exact zk):=e k
def akg(k:q)(e:q->p:=by intro zk;refine⟨rfl,?_,trivial,rfl,rfl,trivial,fun i h=>h⟩;exact zk):=e k
def akh(k:q)(e:q->p:=by intro zk;simp only[go_sem,J];refine x_k Z 2 d ?_;exact zk):=e k
def aki(k:q)(e:q->p:=by intro zk;simp only[go_sem,J,j,(ω:¬(((t.length+2:Nat):Int)<2))];refine aj8 ?_;rw[(ω:t.length+2-2=t.length),List.take_length];apply aa Z o;exact zk):=e k
def akj(k:q)(e:q->p:=by intro zk;simp only[go_sem,J,h,(ω:¬((0:Int)>0))];apply wF Y (ks:=ajq) (n:=2000) 1 (by rw[J];exact QW n ω) rfl rfl (by simp[ax,ak,keys]) (by simp[bV,ak,ax]);simp only[go_sem,J,k,vb,KW n h1];refine⟨⟨ω,ω⟩,h1,?_⟩;exact zk):=e k
def akk(k:q)(e:q->p:=by intro zk;simp only[go_sem,J,(ω:¬((i:Int)<(l.length:Int))),s];refine⟨⟨tm+1,ω,ω,hc⟩,by dsimp only;omega,?_⟩;exact zk):=e k
def akl(k:q)(e:q->p:=by intro zk;simp only[go_sem,J,hz6,decide_true,decide_false,not_true,not_false_eq_true];exact zk):=e k
def akm(k:q)(e:q->p:=by intro zk;simp only[go_sem,J,(ω:((m:Int)>=512))];exact zk):=e k
def akn(k:q)(e:q->p:=by intro zk;apply ba f207 [0,2,3,4,5,6,14,34,42,66];exact zk):=e k
def ako(k:q)(e:q->p:=by intro zk;apply ba f291 [0,1,2,4,20,30,34,49,53];exact zk):=e k
def akp(k:q)(e:q->p:=by intro zk;simp only[go_sem,J,(ω:¬e>=512),(ω:¬a>8)];apply aa Z f;exact zk):=e k
def akq(k:q)(e:q->p:=by intro zk;simp only[go_sem,J,decide_true,decide_false,not_true,not_false_eq_true];exact zk):=e k
def akr(k:q)(e:q->p:=by intro zk;refine x_w Z k3 ?_;simp only[go_sem,J,hz];exact zk):=e k
def aks(k:q)(e:q->p:=by intro zk;rw[ab (n:=10*((List.length now:Nat):Int)) ω ω,ab (n:=16+10*((List.length now:Nat):Int)) ω ω,ab (n:=16+10*((List.length now:Nat):Int)+((szM now:Nat):Int)) ω ω];refine⟨π,?_⟩;exact zk):=e k
def akt(k:q)(e:q->p:=by intro zk;refine aj1 ?_;apply aa Z d;simp only[go_sem,J,show¬(b>8) from h,(ω:¬((n.toNat:Int)>1024)),u,v,(ω:¬(((B.length-q:Nat):Int)<(n.toNat:Int))),w1,A,f];refine aj6 ?_;apply aa Z hv;exact zk):=e k
def aku(k:q)(e:q->p:=by intro zk;refine wa ?_;apply ba f201 ajR;exact zk):=e k
def akv(k:q)(e:q->p:=by intro zk;simp only[go_sem,List.take_zero];exact zk):=e k
def akw(k:q)(e:q->p:=by intro zk;simp only[go_sem,J,(ω:¬((i:Int)<(i:Int)))];exact zk):=e k
def akx(k:q)(e:q->p:=by intro zk;simp only[go_sem,J,sy hlt,hat,hw,hta];refine⟨ω,⟨i+1,ω,d⟩,by dsimp only;omega,?_⟩;exact zk):=e k
def aky(k:q)(e:q->p:=by intro zk;simp only[go_sem,J];apply aa Z hv;simp only[go_sem,J];exact zk):=e k
def akz(k:q)(e:q->p:=by intro zk;simp only[go_sem,J,u,xtP,(ω:¬((at':Int)>=(n:Int)))];refine aj8 ?_;apply aa Z L;exact zk):=e k
def akA(k:q)(e:q->p:=by intro zk;refine akh ?_;simp only[go_sem,J,(ω:¬((m:Int)>=512)),show(a>8) from b];exact zk):=e k
def akB(k:q)(e:q->p:=by intro zk;refine aj3 ?_;apply ba f194 ai6;exact zk):=e k
def akC(k:q)(e:q->p:=by intro zk;refine x_k Z 2 j ?_;simp only[go_sem,J,(ω:¬((m:Int)>=512)),a.1,a.2.1,a.2.2.1,a.2.2.2];exact zk):=e k
def akD(k:q)(e:q->p:=by intro zk;refine⟨9,ε,?_⟩;apply ba f85 [0,1,2,3,34,45];exact zk):=e k
def akE(k:q)(e:q->p:=by intro zk;refine wa ?_;apply ba f205 ajN;exact zk):=e k
def akF(k:q)(e:q->p:=by intro zk;refine⟨cr0,0,0,2,fun c=>(by cases c),?_⟩;apply ba f289 [0,2,3,4,5,6,7,10,19,35];exact zk):=e k
def akG(k:q)(e:q->p:=by intro zk;simp only[go_sem,J,k];apply aa Z h1;exact zk):=e k
def akH(k:q)(e:q->p:=by intro zk;simp only[go_sem,J,(ω:¬((m:Int)>=512)),(ω:¬(d>8)),a.1,a.2.1,a.2.2.1,a.2.2.2];exact zk):=e k
def akI(k:q)(e:q->p:=by intro zk;refine x_k Z 2 (nD t a e) ?_;simp only[go_sem,J];refine x_k Z 2 hs ?_;simp only[go_sem,J];exact zk):=e k
def akJ(k:q)(e:q->p:=by intro zk;refine wa ?_;apply ba f200 aje;exact zk):=e k
def akK(k:q)(e:q->p:=by intro zk;refine aj3 ?_;apply ba f195 ajb;exact zk):=e k
def akL(k:q)(e:q->p:=by intro zk;apply gH;apply iI;apply js;apply kE;apply mz;exact zk):=e k
def akM(k:q)(e:q->p:=by intro zk;simp only[go_sem,J,g,decide_true,decide_false,not_true,not_false_eq_true];exact zk):=e k
def akN(k:q)(e:q->p:=by intro zk;simp only[go_sem,J];refine x_k Z 2 g ?_;exact zk):=e k
def akO(k:q)(e:q->p:=by intro zk;apply aa Z s;simp only[go_sem,J,bO];refine⟨π,?_⟩;apply aa Z (tS hv);exact zk):=e k
def akP(k:q)(e:q->p:=by intro zk;simp only[go_sem,J,o,z,m,j];apply aa Z G;simp only[go_sem,J,B,D,xtP];refine aj8 ?_;apply aa Z U;simp only[go_sem,J,j];apply aa Z A;exact zk):=e k
def akQ(k:q)(e:q->p:=by intro zk;simp only[go_sem,J];refine x_b Z hb ?_;exact zk):=e k
def akR(k:q)(e:q->p:=by intro zk;simp only[go_sem,J,(ω:¬(now<0)),(ω:¬(now>1099511627776)),w1,w30];exact zk):=e k
def akS(k:q)(e:q->p:=by intro zk;apply ba f211 [0,1,2,3,6,7,8,9,15,19,23];exact zk):=e k
def akT(k:q)(e:q->p:=by intro zk;refine x_w Z o ?_;simp only[go_sem,J];apply aa Z hpu;simp only[go_sem,J];refine x_w Z q3 ?_;simp only[go_sem,J,l];exact zk):=e k
def akU(k:q)(e:q->p:=by intro zk;refine⟨⟨i+1,ω,d⟩,by dsimp only;omega,?_⟩;exact zk):=e k
def akV(k:q)(e:q->p:=by intro zk;simp only[go_sem,J,y,A,crP,cK];refine⟨ω,ω,ω,ω,?_⟩;apply aa Z B;refine wi ?_;apply aa Z m;simp only[go_sem,J,hN,l];exact zk):=e k
def akW(k:q)(e:q->p:=by intro zk;simp only[go_sem,J];apply aa Z h2;exact zk):=e k
def akX(k:q)(e:q->p:=by intro zk;refine wa ?_;apply ba f196 ajO;exact zk):=e k
def akY(k:q)(e:q->p:=by intro zk;refine x_w Z t ?_;simp only[go_sem,J];apply aa Z hp;simp only[go_sem,J,hs];exact zk):=e k
def akZ(k:q)(e:q->p:=by intro zk;apply aa Z j;simp only[go_sem,J];exact zk):=e k
def ak0(k:q)(e:q->p:=by intro zk;refine⟨⟨ω,ω,ω⟩,π,?_⟩;exact zk):=e k
def ak1(k:q)(e:q->p:=by intro zk;simp only[go_sem,J];apply aa Z u;simp only[go_sem,J];exact zk):=e k
def ak2(k:q)(e:q->p:=by intro zk;refine x_k Z 2 h ?_;simp only[go_sem,J,(ω:¬((m:Int)>=512))];exact zk):=e k
def ak3(k:q)(e:q->p:=by intro zk;simp only[go_sem,J,(ω:((i:Int)<(n:Int))),bC,byP];refine⟨ω,ω,?_⟩;apply aa Z o;refine wi ?_;apply aa Z s;exact zk):=e k
def ak4(k:q)(e:q->p:=by intro zk;refine FS.ext' rfl (fun s=>?_) (fun _=>rfl) (fun _=>Iff.rfl);exact zk):=e k
def ak5(k:q)(e:q->p:=by intro zk;apply sE;apply uS;apply xE;apply BF;apply F4;exact zk):=e k
def ak6(k:q)(e:q->p:=by intro zk;simp only[go_sem,J];apply aa Z h;simp only[go_sem,J];exact zk):=e k
def ak7(k:q)(e:q->p:=by intro zk;apply lu;apply mB;apply oI;apply uR;apply zx;exact zk):=e k
def ak8(k:q)(e:q->p:=by intro zk;apply ba f162 [0,2,3,4,5,6,7,8,9,22];exact zk):=e k
def ak9(k:q)(e:q->p:=by intro zk;unfold gb;simp only[g,hv,ne_eq,not_true_eq_false,if_false,h5,Nat.mul_div_cancel_left k (show 0<p by omega)];exact zk):=e k
def ala(k:q)(e:q->p:=by intro zk;refine⟨ω,ω,?_⟩;apply aa Z hfi;simp only[go_sem,J,hil,bC,byP];refine⟨π,ω,ω,?_⟩;apply aa Z hnu;exact zk):=e k
def alb(k:q)(e:q->p:=by intro zk;apply aa Z d;simp only[go_sem,J];exact zk):=e k
def alc(k:q)(e:q->p:=by intro zk;simp only[go_sem,J,show IntKind.i64.wrap (0+1)=1 from ε];exact zk):=e k
def ald(k:q)(e:q->p:=by intro zk;refine⟨0,0,0,0,0,[],0,0,2,.inl rfl,?_⟩;exact zk):=e k
def ale(k:q)(e:q->p:=by intro zk;refine wa ?_;apply ba f199 ajg;exact zk):=e k
def alf(k:q)(e:q->p:=by intro zk;simp only[go_sem];rw[cD η,aJ];show SAW _ _ _;refine bm h0 hj (aA [0,1,2] rfl κ ?_ rfl rfl (cV rfl));exact zk):=e k
def alg(k:q)(e:q->p:=by intro zk;simp only[go_sem,J,a,h1,m];apply aa Z hs;simp only[go_sem,J,j];refine⟨π,?_⟩;refine x_k Z 1 g ?_;exact zk):=e k
def alh(k:q)(e:q->p:=by intro zk;refine akh ?_;simp only[go_sem,J,(ω:¬((m:Int)>=512)),show¬(a>8) from b,(ω:((n.toNat:Int)>1024))];exact zk):=e k
def ali(k:q)(e:q->p:=by intro zk;apply aa Z g3;simp only[go_sem,J,(ω:¬((b3.length:Int)=0))];apply aa Z i;refine wi ?_;apply aa Z g4;exact zk):=e k
def alj(k:q)(e:q->p:=by intro zk;refine x_w Z m ?_;simp only[go_sem,J];exact zk):=e k
def alk(k:q)(e:q->p:=by intro zk;simp only[go_sem,J,a,(ω:((i:Int)<16))];apply aa Z l;simp only[go_sem,J,f,decide_true];apply aa Z q;exact zk):=e k
def alm(k:q)(e:q->p:=by intro zk;refine akh ?_;simp only[go_sem,J,(ω:¬((m:Int)>=512)),show¬(a>8) from b,(ω:((n.toNat:Int)>512))];exact zk):=e k
def aln(k:q)(e:q->p:=by intro zk;unfold World.freeze;rw[b0 ε];exact zk):=e k
def alo(k:q)(e:q->p:=by intro zk;simp only[go_sem];rw[cD (by rw[jA];exact Nat.le_of_eq (congrArg (·*3) a.len))];simp only[go_sem];exact zk):=e k
def alp(k:q)(e:q->p:=by intro zk;simp only[go_sem,J,a,crP,cK,sy q,(ω:((i:Int)<(l.length:Int)))];refine⟨ω,ω,?_⟩;apply aa Z o;exact zk):=e k
def alq(k:q)(e:q->p:=by intro zk;simp only[go_sem,J];refine aj1 ?_;exact zk):=e k
def alr(k:q)(e:q->p:=by intro zk;simp only[go_sem,J];apply aa Z g;exact zk):=e k
def als(k:q)(e:q->p:=by intro zk;apply aa Z b;simp only[go_sem,J];exact zk):=e k
def alt(k:q)(e:q->p:=by intro zk;simp only[go_sem,J];refine x_k Z 3 hh ?_;simp only[go_sem,J];refine x_k Z 3 ha ?_;exact zk):=e k
def alu(k:q)(e:q->p:=by intro zk;apply aa Z l;simp only[go_sem,J];apply aa Z o;simp only[go_sem,J];refine x_f Z (bI rh) ?_;simp only[go_sem,J];apply aa Z ho;simp only[go_sem,J,B];exact zk):=e k
def alv(k:q)(e:q->p:=by intro zk;simp only[go_sem,J,hy];apply aa Z hrp;simp only[go_sem,J];apply aa Z hus;simp only[go_sem,J];apply aa Z htx;simp only[go_sem,J];apply aa Z hwb;exact zk):=e k
def alw(k:q)(e:q->p:=by intro zk;simp only[go_sem,J,h1];refine akZ ?_;apply aa Z s;simp only[go_sem,J,t];refine x_w Z g ?_;simp only[go_sem,J];apply aa Z D;simp only[go_sem,J];exact zk):=e k
def alx(k:q)(e:q->p:=by intro zk;simp only[go_sem,J];simp only[dl,dX];exact zk):=e k
def aly(k:q)(e:q->p:=by intro zk;simp only[go_sem,J];apply aa Z B;simp only[go_sem,J];exact zk):=e k
def alz(k:q)(e:q->p:=by intro zk;apply aa Z hv;simp only[go_sem,J];exact zk):=e k
def alA(k:q)(e:q->p:=by intro zk;simp only[go_sem,J];refine x_k Z 2 Q ?_;simp only[go_sem,J,(ω:¬((m:Int)>=512)),(ω:¬(a>8)),hNe,A];refine aj6 ?_;exact zk):=e k
def alB(k:q)(e:q->p:=by intro zk;simp only[go_sem,J];refine akZ ?_;apply aa Z l;simp only[go_sem,J,u];apply aa Z F;refine wi ?_;refine x_w Z A ?_;exact zk):=e k
def alC(k:q)(e:q->p:=by intro zk;refine x_w Z u ?_;simp only[go_sem,J];exact zk):=e k
def alD(k:q)(e:q->p:=by intro zk;simp only[go_sem,J];apply aa Z hv;simp only[go_sem,J,j];exact zk):=e k
end